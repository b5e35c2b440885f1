-- Laid by a program of this session (the kit's print, changed): Lean checks it.
import Derived.Test.YtlnogacjebbepaaDoorPx0
import Derived.Test.YtlnogacjebbepaaDoorPx3
namespace Go.Proofs.YtlnogacjebbepaaDoor.G
end Go.Proofs.YtlnogacjebbepaaDoor.G
namespace Go.Proofs.YtlnogacjebbepaaDoor.P
open Go.Proofs.YtlnogacjebbepaaDoor.G
open Go.RowKit Go.Proofs.YtlnogacjebbepaaDoorW.PrintWords Go.Proofs.YtlnogacjebbepaaDoorW.PrintLast Go.Proofs.YtlnogacjebbepaaDoorW.PrintMore
attribute [local go_sem] max2_int min2_int max_two min_two max_three min_three max_four min_four   -- for this text's walks alone
set_option linter.unusedVariables false
set_option linter.unusedSimpArgs false

/-! ### crossroadslaw22_awake: function 8 -/
def crossroadslaw22_awake.f (k : Nat)  : Option (Bool) := (tar_Write.f k ([] : List (S44))).bind fun bt159 => ((tar_Write.f k (([(⟨(⟨#[97]⟩ : ByteArray), false, (([5] : List Int))⟩ : S44)] : List (S44)))).bind fun bt169 => ((tar_Read.f k bt169.1).bind fun bt173 => (if bt159.2 = 0 then (if bt169.2 = 0 then (if bt173.2 = 0 then (if (bt159.1.length : Int) = 1024 then (if (bt169.1.length : Int) = 2048 then (if (bt173.1.length : Int) = 1 then (if 0 < (bt173.1.length : Int) then (if ((rd_T44 bt173.1 0).f0).toList = ([97] : List UInt8) then (if (((rd_T44 bt173.1 0).f2).length : Int) = 1 then (if 0 < (((rd_T44 bt173.1 0).f2).length : Int) then (some ((rd ((rd_T44 bt173.1 0).f2) 0) == 5)) else (none)) else (none)) else (none)) else (none)) else (none)) else (none)) else (none)) else (none)) else (none)) else (none))))
theorem crossroadslaw22_awake.mono : ∀ k, LeO (crossroadslaw22_awake.f k ) (crossroadslaw22_awake.f (k + 1) ) := by
  intro  k
  unfold crossroadslaw22_awake.f
  repeat' first
      | (with_reducible exact tar_Read.mono _ _)
      | (with_reducible exact tar_Write.mono _ _)
      | (with_reducible exact LeO.refl _)
      | (with_reducible exact LeO.none _)
      | (with_reducible refine LeO.ite ?_ ?_)
      | (with_reducible refine LeO.bind ?_ (fun _ => ?_))
      | exact tar_Read.mono _ _
      | exact tar_Write.mono _ _
      | exact LeO.none _
      | refine LeO.ite ?_ ?_
      | refine LeO.bind ?_ (fun _ => ?_)
set_option maxHeartbeats 8000000 in
set_option maxRecDepth 100000 in
theorem crossroadslaw22_awake.calls (k : Nat)  (r : Bool) (w : World) (h : crossroadslaw22_awake.f k  = some r) :
    Calls Tryd.prog 8 #[] w fun e w' => e = .returned (.bool r) ∧ Below w.heap.size w w' := by
  have hu44 := Tryd.underlying44
  have HB := Aside0.mk (Below.refl w.heap.size w)
  have H : ((tar_Write.f k ([] : List (S44))).bind fun bt159 => ((tar_Write.f k (([(⟨(⟨#[97]⟩ : ByteArray), false, (([5] : List Int))⟩ : S44)] : List (S44)))).bind fun bt169 => ((tar_Read.f k bt169.1).bind fun bt173 => (if bt159.2 = 0 then (if bt169.2 = 0 then (if bt173.2 = 0 then (if (bt159.1.length : Int) = 1024 then (if (bt169.1.length : Int) = 2048 then (if (bt173.1.length : Int) = 1 then (if 0 < (bt173.1.length : Int) then (if ((rd_T44 bt173.1 0).f0).toList = ([97] : List UInt8) then (if (((rd_T44 bt173.1 0).f2).length : Int) = 1 then (if 0 < (((rd_T44 bt173.1 0).f2).length : Int) then (some ((rd ((rd_T44 bt173.1 0).f2) 0) == 5)) else (none)) else (none)) else (none)) else (none)) else (none)) else (none)) else (none)) else (none)) else (none)) else (none))))) = some r := h
  clear h
  replace H := Option.bind_eq_some_iff.mp H
  obtain ⟨⟨t159, t160⟩, A10, H⟩ := H
  replace H : ((tar_Write.f k (([(⟨(⟨#[97]⟩ : ByteArray), false, (([5] : List Int))⟩ : S44)] : List (S44)))).bind fun bt169 => ((tar_Read.f k bt169.1).bind fun bt173 => (if t160 = 0 then (if bt169.2 = 0 then (if bt173.2 = 0 then (if (t159.length : Int) = 1024 then (if (bt169.1.length : Int) = 2048 then (if (bt173.1.length : Int) = 1 then (if 0 < (bt173.1.length : Int) then (if ((rd_T44 bt173.1 0).f0).toList = ([97] : List UInt8) then (if (((rd_T44 bt173.1 0).f2).length : Int) = 1 then (if 0 < (((rd_T44 bt173.1 0).f2).length : Int) then (some ((rd ((rd_T44 bt173.1 0).f2) 0) == 5)) else (none)) else (none)) else (none)) else (none)) else (none)) else (none)) else (none)) else (none)) else (none)) else (none)))) = some r := H
  have A1 := Aside0.mk A10
  clear A10
  obtain ⟨y163, hy163⟩ : ∃ y_ : List Int, y_ = (([5] : List Int)) := ⟨_, rfl⟩
  replace H : ((tar_Write.f k (([(⟨(⟨#[97]⟩ : ByteArray), false, y163⟩ : S44)] : List (S44)))).bind fun bt169 => ((tar_Read.f k bt169.1).bind fun bt173 => (if t160 = 0 then (if bt169.2 = 0 then (if bt173.2 = 0 then (if (t159.length : Int) = 1024 then (if (bt169.1.length : Int) = 2048 then (if (bt173.1.length : Int) = 1 then (if 0 < (bt173.1.length : Int) then (if ((rd_T44 bt173.1 0).f0).toList = ([97] : List UInt8) then (if (((rd_T44 bt173.1 0).f2).length : Int) = 1 then (if 0 < (((rd_T44 bt173.1 0).f2).length : Int) then (some ((rd ((rd_T44 bt173.1 0).f2) 0) == 5)) else (none)) else (none)) else (none)) else (none)) else (none)) else (none)) else (none)) else (none)) else (none)) else (none)))) = some r := by first | (rw [hy163]; with_reducible exact H) | (have H2_ := (Option.bind_some _ _).symm.trans H; rw [hy163]; with_reducible exact H2_) | (have H2_ := (Option.bind_some _ _).symm.trans H; with_reducible exact H2_) | with_reducible exact H | (rw [hy163]; exact H) | exact H
  have Ny163 := Aside0.mk hy163
  clear hy163
  obtain ⟨y166, hy166⟩ : ∃ y_ : List (S44), y_ = (([(⟨(⟨#[97]⟩ : ByteArray), false, y163⟩ : S44)] : List (S44))) := ⟨_, rfl⟩
  replace H : ((tar_Write.f k y166).bind fun bt169 => ((tar_Read.f k bt169.1).bind fun bt173 => (if t160 = 0 then (if bt169.2 = 0 then (if bt173.2 = 0 then (if (t159.length : Int) = 1024 then (if (bt169.1.length : Int) = 2048 then (if (bt173.1.length : Int) = 1 then (if 0 < (bt173.1.length : Int) then (if ((rd_T44 bt173.1 0).f0).toList = ([97] : List UInt8) then (if (((rd_T44 bt173.1 0).f2).length : Int) = 1 then (if 0 < (((rd_T44 bt173.1 0).f2).length : Int) then (some ((rd ((rd_T44 bt173.1 0).f2) 0) == 5)) else (none)) else (none)) else (none)) else (none)) else (none)) else (none)) else (none)) else (none)) else (none)) else (none)))) = some r := by first | (rw [hy166]; with_reducible exact H) | (have H2_ := (Option.bind_some _ _).symm.trans H; rw [hy166]; with_reducible exact H2_) | (have H2_ := (Option.bind_some _ _).symm.trans H; with_reducible exact H2_) | with_reducible exact H | (rw [hy166]; exact H) | exact H
  have Ny166 := Aside0.mk hy166
  clear hy166
  replace H := Option.bind_eq_some_iff.mp H
  obtain ⟨⟨t169, t170⟩, A20, H⟩ := H
  replace H : ((tar_Read.f k t169).bind fun bt173 => (if t160 = 0 then (if t170 = 0 then (if bt173.2 = 0 then (if (t159.length : Int) = 1024 then (if (t169.length : Int) = 2048 then (if (bt173.1.length : Int) = 1 then (if 0 < (bt173.1.length : Int) then (if ((rd_T44 bt173.1 0).f0).toList = ([97] : List UInt8) then (if (((rd_T44 bt173.1 0).f2).length : Int) = 1 then (if 0 < (((rd_T44 bt173.1 0).f2).length : Int) then (some ((rd ((rd_T44 bt173.1 0).f2) 0) == 5)) else (none)) else (none)) else (none)) else (none)) else (none)) else (none)) else (none)) else (none)) else (none)) else (none))) = some r := H
  have A2 := Aside0.mk A20
  clear A20
  replace H := Option.bind_eq_some_iff.mp H
  obtain ⟨⟨t173, t176⟩, A30, H⟩ := H
  replace H : (if t160 = 0 then (if t170 = 0 then (if t176 = 0 then (if (t159.length : Int) = 1024 then (if (t169.length : Int) = 2048 then (if (t173.length : Int) = 1 then (if 0 < (t173.length : Int) then (if ((rd_T44 t173 0).f0).toList = ([97] : List UInt8) then (if (((rd_T44 t173 0).f2).length : Int) = 1 then (if 0 < (((rd_T44 t173 0).f2).length : Int) then (some ((rd ((rd_T44 t173 0).f2) 0) == 5)) else (none)) else (none)) else (none)) else (none)) else (none)) else (none)) else (none)) else (none)) else (none)) else (none)) = some r := H
  have A3 := Aside0.mk A30
  clear A30
  by_cases c4 : t160 = 0
  · rw [if_pos c4] at H
    have c4b0 : (t160 == 0) = true := beq_iff_eq.mpr c4
    have c4b1 : (t160 != 0) = false := bne_eq_false_iff_eq.mpr c4
    clear c4
    by_cases c5 : t170 = 0
    · rw [if_pos c5] at H
      have c5b0 : (t170 == 0) = true := beq_iff_eq.mpr c5
      have c5b1 : (t170 != 0) = false := bne_eq_false_iff_eq.mpr c5
      clear c5
      by_cases c6 : t176 = 0
      · rw [if_pos c6] at H
        have c6b0 : (t176 == 0) = true := beq_iff_eq.mpr c6
        have c6b1 : (t176 != 0) = false := bne_eq_false_iff_eq.mpr c6
        clear c6
        by_cases c7 : (t159.length : Int) = 1024
        · rw [if_pos c7] at H
          have c7b0 : ((t159.length : Int) == 1024) = true := beq_iff_eq.mpr c7
          have c7b1 : ((t159.length : Int) != 1024) = false := bne_eq_false_iff_eq.mpr c7
          clear c7
          by_cases c8 : (t169.length : Int) = 2048
          · rw [if_pos c8] at H
            have c8b0 : ((t169.length : Int) == 2048) = true := beq_iff_eq.mpr c8
            have c8b1 : ((t169.length : Int) != 2048) = false := bne_eq_false_iff_eq.mpr c8
            clear c8
            by_cases c9 : (t173.length : Int) = 1
            · rw [if_pos c9] at H
              have c9b0 : ((t173.length : Int) == 1) = true := beq_iff_eq.mpr c9
              have c9b1 : ((t173.length : Int) != 1) = false := bne_eq_false_iff_eq.mpr c9
              clear c9
              by_cases c10 : 0 < (t173.length : Int)
              · rw [if_pos c10] at H
                have c10b0 : decide (0 < (t173.length : Int)) = true := decide_eq_true c10
                have c10b1 : decide (0 < t173.length) = true := decide_eq_true (by omega)
                clear c10
                by_cases c11 : ((rd_T44 t173 0).f0).toList = ([97] : List UInt8)
                · rw [if_pos c11] at H
                  have c11b0 : (((rd_T44 t173 0).f0).toList == ([97] : List UInt8)) = true := beq_iff_eq.mpr c11
                  have c11b1 : (((rd_T44 t173 0).f0).toList != ([97] : List UInt8)) = false := bne_eq_false_iff_eq.mpr c11
                  clear c11
                  by_cases c12 : (((rd_T44 t173 0).f2).length : Int) = 1
                  · rw [if_pos c12] at H
                    have c12b0 : ((((rd_T44 t173 0).f2).length : Int) == 1) = true := beq_iff_eq.mpr c12
                    have c12b1 : ((((rd_T44 t173 0).f2).length : Int) != 1) = false := bne_eq_false_iff_eq.mpr c12
                    clear c12
                    by_cases c13 : 0 < (((rd_T44 t173 0).f2).length : Int)
                    · rw [if_pos c13] at H
                      have c13b0 : decide (0 < (((rd_T44 t173 0).f2).length : Int)) = true := decide_eq_true c13
                      have c13b1 : decide (0 < ((rd_T44 t173 0).f2).length) = true := decide_eq_true (by omega)
                      clear c13
                      obtain rfl := Option.some.inj H
                      go_enter Tryd.func8, Tryd.ntmps8
                      go_wp2_with (first | ((with_reducible refine gate_callee (f := 10) rfl ?_); refine goesL_ (some 8) rfl rfl Tryd.func10 (by kernel_rfl) rfl #[.slice none 0 0] rfl (by (try simp only [List.map_toArray, List.map_cons, List.map_nil]); first | done | rfl | (simp only [List.length_drop, List.length_take]; rfl)) ?_; (refine (tar_Write.calls k _ _ ([] : List (S44)) t159 t160 _ ?side1 ?side2 A1.out).mono ?_); (case side1 => exact Kd.C_nil _ _); (case side2 => exact Nat.le_refl _); rintro e w14 ⟨v161, rfl, ho0, hb⟩; refine ⟨_, rfl, ?_⟩; have n0_ := Aside0.mk (Kd.R_lower ho0 (below_size (by repeat (first | (with_reducible first | exact HB.out | apply below_alloc | apply pw_below_drewN | apply below_drew1) | exact HB.out)))); have n1_ := Aside0.mk (below_step (by repeat (first | (with_reducible first | exact HB.out | apply below_alloc | apply pw_below_drewN | apply below_drew1) | exact HB.out)) hb); clear HB; have HO162 := n0_; have HB := n1_; clear n0_ n1_; (try clear hb); (try clear hb2); (try clear hk); (try clear hi); (try clear ho0)) | ((with_reducible refine gate_dst (N := 12) rfl ?_); (try (refine gate_guard (by rfl) ?_; dsimp only)); refine Kd.R_lit (Kd.int .u8) _ 5 ?hg (N := 12) ?hd (xs := ([5] : List Int)) (inner := [.int .u8 5]) (ok := fun _ => True) (okp := fun _ => True) ?hr ?hp (fun _ hk => hk) trivial (Below.refl _ _) (Nat.le_refl _) (by simp) ?_; (case hd => rfl); (case hg => rfl); (case hr => first | (go_simp; done) | (go_simp; rfl)); (case hp => exact (Reps.one (show Kd.M (Kd.int .u8) _ _ _ 5 [.int .u8 5] from rfl) (Reps.none _ _))); intro v164 w15 ho16 hb hg_ hnew_; clear hg_ hnew_; (first | rw [← Ny163.out] at ho16 | (simp only [Int.reduceToNat] at ho16; rw [← Ny163.out] at ho16)); have n0_ := Aside0.mk (Kd.R_elder' (by (with_reducible repeat (first | apply Kd.R_alloc | apply Kd.R_drewN | apply Kd.R_drew)); exact HO162.out) (Kd.R_base ho16) hb); have n1_ := Aside0.mk (Kd.R_lower (Kd.R_new' ho16 (Kd.R_lt (by (with_reducible repeat (first | apply Kd.R_alloc | apply Kd.R_drewN | apply Kd.R_drew)); exact HO162.out))) (below_size (by repeat (first | (with_reducible first | exact HB.out | apply below_alloc | apply pw_below_drewN | apply below_drew1) | exact HB.out)))); have n2_ := Aside0.mk (below_step (by repeat (first | (with_reducible first | exact HB.out | apply below_alloc | apply pw_below_drewN | apply below_drew1) | exact HB.out)) hb); clear HO162; clear HB; have HO162 := n0_; have HO165 := n1_; have HB := n2_; clear n0_ n1_ n2_; clear hb ho16; obtain ⟨Ao17, co17, eo17⟩ := Kd.R_slice HO165.out; subst eo17) | ((with_reducible refine gate_dst (N := 14) rfl ?_); (try (refine gate_guard (by rfl) ?_; dsimp only)); refine Kd.N_lit k44 _ 44 ?hg (N' := 14) ?hd (xs := ([(⟨(⟨#[97]⟩ : ByteArray), false, y163⟩ : S44)] : List (S44))) (inner := [.string (⟨#[97]⟩ : ByteArray), .bool false, .slice Ao17 y163.length co17]) (ok := (fun k_ => some k_ ≠ (v161 : Value).ownBlock)) (okp := (fun k_ => some k_ ≠ (v161 : Value).ownBlock)) ?hr ?hp (fun _ hk => hk) ((show ∀ k_, w15.heap.size ≤ k_ → (fun k_ => some k_ ≠ (v161 : Value).ownBlock) k_ from fun k_ hk => Kd.fresh' (Kd.R_lt (by (with_reducible repeat (first | apply Kd.R_alloc | apply Kd.R_drewN | apply Kd.R_drew)); exact HO162.out)) k_ hk) _ (Nat.le_refl _)) (Below.refl _ _) (Nat.le_refl _) (by simp) ?_; (case hd => rfl); (case hg => rfl); (case hr => first | (go_simp; done) | (go_simp; rfl)); (case hp => exact (Reps.c3 (show Kd.FK k44 _ _ (⟨(⟨#[97]⟩ : ByteArray), false, y163⟩ : S44) [.string (⟨#[97]⟩ : ByteArray), .bool false, .slice Ao17 y163.length co17] from (k44_mkF _ _ (⟨(⟨#[97]⟩ : ByteArray), false, y163⟩ : S44) (Kd.R_reads' (Kd.R_mono (ok' := (fun k_ => some k_ ≠ (v161 : Value).ownBlock)) (HO165.out) (fun k_ hk => hk.2))).2.1 (Kd.R_F (Kd.R_mono (ok' := (fun k_ => some k_ ≠ (v161 : Value).ownBlock)) (HO165.out) (fun k_ hk => hk.2))))) (Reps.none _ _))); intro v167 w18 ho19 hb hg_ hnew_; clear hg_ hnew_; (first | rw [← Ny166.out] at ho19 | (simp only [Int.reduceToNat] at ho19; rw [← Ny166.out] at ho19)); have n0_ := Aside0.mk (Kd.R_below (by (with_reducible repeat (first | apply Kd.R_alloc | apply Kd.R_drewN | apply Kd.R_drew)); exact HO162.out) hb); have n1_ := Aside0.mk (Kd.N_lower ho19 (below_size (by repeat (first | (with_reducible first | exact HB.out | apply below_alloc | apply pw_below_drewN | apply below_drew1) | exact HB.out)))); have n2_ := Aside0.mk (below_step (by repeat (first | (with_reducible first | exact HB.out | apply below_alloc | apply pw_below_drewN | apply below_drew1) | exact HB.out)) hb); clear HO162; clear HB; clear HO165; have HO162 := n0_; have HO168 := n1_; have HB := n2_; clear n0_ n1_ n2_; clear hb ho19; obtain ⟨Ao20, co20, eo20⟩ := Kd.N_slice HO168.out; subst eo20) | ((with_reducible refine gate_callee (f := 10) rfl ?_); refine goesL_ (some 15) rfl rfl Tryd.func10 (by kernel_rfl) rfl #[.slice Ao20 y166.length co20] rfl (by (try simp only [List.map_toArray, List.map_cons, List.map_nil]); first | done | rfl | (simp only [List.length_drop, List.length_take]; rfl)) ?_; (with_reducible refine (tar_Write.calls k _ _ y166 t169 t170 _ ?side1 ?side2 A2.out).mono ?_); (case side1 => repeat (first | exact (Kd.N_reads' HO168.out).2.2 | (with_reducible refine Kd.C_alloc ?_ _) | (with_reducible refine Kd.C_drewN ?_ _) | (with_reducible refine Kd.C_drew ?_))); (case side2 => exact (Kd.N_reads' HO168.out).2.1); rintro e w21 ⟨v171, rfl, ho0, hb⟩; refine ⟨_, rfl, ?_⟩; have n0_ := Aside0.mk (Kd.R_elder' (by (with_reducible repeat (first | apply Kd.R_alloc | apply Kd.R_drewN | apply Kd.R_drew)); exact HO162.out) (Kd.R_base ho0) hb); have n1_ := Aside0.mk (Kd.N_elder' (by (with_reducible repeat (first | apply Kd.N_alloc | apply Kd.N_drewN | apply Kd.N_drew)); exact HO168.out) (Kd.R_base ho0) hb); have n2_ := Aside0.mk (Kd.R_lower (Kd.R_new' ho0 (Kd.R_lt (by (with_reducible repeat (first | apply Kd.R_alloc | apply Kd.R_drewN | apply Kd.R_drew)); exact HO162.out))) (below_size (by repeat (first | (with_reducible first | exact HB.out | apply below_alloc | apply pw_below_drewN | apply below_drew1) | exact HB.out)))); have n3_ := Aside0.mk (below_step (by repeat (first | (with_reducible first | exact HB.out | apply below_alloc | apply pw_below_drewN | apply below_drew1) | exact HB.out)) hb); clear HO162; clear HO168; clear HB; have HO162 := n0_; have HO168 := n1_; have HO172 := n2_; have HB := n3_; clear n0_ n1_ n2_ n3_; (try clear hb); (try clear hb2); (try clear hk); (try clear hi); (try clear ho0); obtain ⟨Ao22, co22, eo22⟩ := Kd.R_slice HO172.out; subst eo22) | ((with_reducible refine gate_callee (f := 13) rfl ?_); refine goesL_ (some 20) rfl rfl Tryd.func13 (by kernel_rfl) rfl #[.slice Ao22 t169.length co22] rfl (by (try simp only [List.map_toArray, List.map_cons, List.map_nil]); first | done | rfl | (simp only [List.length_drop, List.length_take]; rfl)) ?_; (with_reducible refine (tar_Read.calls k (fun k_ => some k_ = (.slice Ao22 t169.length co22 : Value).ownBlock) _ _ t169 t173 t176 _ ?side1 A3.out).mono ?_); (case side1 => exact Kd.R_V (Kd.R_tight rfl (Kd.R_apart' (HO172.out) (Kd.N_typed HO168.out) (by decide)))); rintro e w23 ⟨v174, rfl, ho0, hb⟩; refine ⟨_, rfl, ?_⟩; replace ho0 := Kd.S_N (Kd.S_mono (ok' := fun k_ => (fun k_ => some k_ = (.slice Ao22 t169.length co22 : Value).ownBlock) k_ ∨ _ ≤ k_) ho0 (fun k_ hk_ => Or.inr hk_)); have n0_ := Aside0.mk (Kd.R_below (by (with_reducible repeat (first | apply Kd.R_alloc | apply Kd.R_drewN | apply Kd.R_drew)); exact HO162.out) hb); have n1_ := Aside0.mk (Kd.N_elder' (by (with_reducible repeat (first | apply Kd.N_alloc | apply Kd.N_drewN | apply Kd.N_drew)); exact HO168.out) (Kd.N_base ho0) hb); have n2_ := Aside0.mk (Kd.R_below (by (with_reducible repeat (first | apply Kd.R_alloc | apply Kd.R_drewN | apply Kd.R_drew)); exact HO172.out) hb); have n3_ := Aside0.mk (Kd.N_lower (Kd.N_mono (ok' := fun k_ => some k_ ≠ (v161 : Value).ownBlock ∧ some k_ ≠ (.slice Ao20 y166.length co20 : Value).ownBlock) ho0 (fun k_ hk_ => ⟨Or.elim hk_ (fun hs_ => ((Kd.R_apart' (HO172.out) (Kd.N_typed HO168.out) (by decide)).1 k_ hs_.symm).1.2) (fun hn_ => (Kd.fresh' (Kd.R_lt (by (with_reducible repeat (first | apply Kd.R_alloc | apply Kd.R_drewN | apply Kd.R_drew)); exact HO162.out)) k_ hn_)), Or.elim hk_ (fun hs_ => ((Kd.R_apart' (HO172.out) (Kd.N_typed HO168.out) (by decide)).1 k_ hs_.symm).2) (fun hn_ => (Kd.fresh' (Kd.N_lt (by (with_reducible repeat (first | apply Kd.N_alloc | apply Kd.N_drewN | apply Kd.N_drew)); exact HO168.out)) k_ hn_))⟩)) (below_size (by repeat (first | (with_reducible first | exact HB.out | apply below_alloc | apply pw_below_drewN | apply below_drew1) | exact HB.out)))); have n4_ := Aside0.mk (below_step (by repeat (first | (with_reducible first | exact HB.out | apply below_alloc | apply pw_below_drewN | apply below_drew1) | exact HB.out)) hb); clear HO162; clear HO168; clear HO172; clear HB; have HO162 := n0_; have HO168 := n1_; have HO172 := n2_; have HO175 := n3_; have HB := n4_; clear n0_ n1_ n2_ n3_ n4_; (try clear hb); (try clear hb2); (try clear hk); (try clear hi); (try clear ho0); obtain ⟨Ao24, co24, eo24⟩ := Kd.R_slice HO162.out; subst eo24; obtain ⟨Ao25, co25, eo25⟩ := Kd.N_slice HO175.out; subst eo25; have p177 : 0 ≤ (0 : Int) := (by omega); have q177 : 0 < (t173.length : Int) := of_decide_eq_true (by first | (with_reducible assumption) | assumption); obtain ⟨ad177, A177_2, c177_2, e177, hx177_0, hx177_1, hx177_2, hl177_2, hi177_2⟩ := at_T44 (Kd.N_reads' HO175.out).2.2 0 p177 q177; cases e177; obtain ⟨ce177, hce177, hMe177, hcc177⟩ := Kd.N_get HO175.out z44 0 p177 (by first | exact q177 | exact of_decide_eq_true (by first | (with_reducible assumption) | assumption) | (have e_ := (Kd.N_reads' HO175.out).1; omega)); obtain ⟨ua177_2, uc177_2, rfl, ul177_2, ge177_2⟩ := k44_openF hMe177; have hv177_2 := hcc177 2 _ rfl; rw [add_field _ _ 2 (by omega)] at hv177_2; replace hv177_2 := Option.some.inj (hv177_2.symm.trans hx177_2); injection hv177_2 with hva_ hvn_ hvc_; rw [hva_] at ge177_2; rw [hvc_] at ul177_2; have HL177_2 := Aside0.mk (show Kd.V (Kd.int .u8) 5 _ w.heap.size _ _ ((rd_T44 t173 0).f2) from Kd.V_mk ul177_2 ge177_2); clear hva_ hvn_ hvc_ ge177_2 ul177_2; clear hcc177 hce177; have qi177 : (0 < t173.length) = True := eq_true (by omega); (try rw [show ((0 : Int)).toNat = 0 from rfl] at hx177_0); (try rw [show 0 * 3 = 0 from rfl] at hx177_0); (try rw [Addr.add_zero'] at hx177_0); (try rw [show ((0 : Int)).toNat = 0 from rfl] at hx177_1); (try rw [show 0 * 3 = 0 from rfl] at hx177_1); (try rw [Addr.add_zero'] at hx177_1); (try rw [show ((0 : Int)).toNat = 0 from rfl] at hx177_2); (try rw [show 0 * 3 = 0 from rfl] at hx177_2); (try rw [Addr.add_zero'] at hx177_2); have HR177_2 := Aside0.mk hi177_2; have HC177_2 := Aside0.mk hl177_2; clear hi177_2 hl177_2; replace p177 := eq_true p177; replace q177 := eq_true q177; have p178 : 0 ≤ (0 : Int) := (by omega); have q178 : 0 < (t173.length : Int) := of_decide_eq_true (by first | (with_reducible assumption) | assumption); obtain ⟨ad178, A178_2, c178_2, e178, hx178_0, hx178_1, hx178_2, hl178_2, hi178_2⟩ := at_T44 (Kd.N_reads' HO175.out).2.2 0 p178 q178; obtain rfl : ad177 = ad178 := (by injection e178); obtain ⟨ce178, hce178, hMe178, hcc178⟩ := Kd.N_get HO175.out z44 0 p178 (by first | exact q178 | exact of_decide_eq_true (by first | (with_reducible assumption) | assumption) | (have e_ := (Kd.N_reads' HO175.out).1; omega)); obtain ⟨ua178_2, uc178_2, rfl, ul178_2, ge178_2⟩ := k44_openF hMe178; have hv178_2 := hcc178 2 _ rfl; rw [add_field _ _ 2 (by omega)] at hv178_2; replace hv178_2 := Option.some.inj (hv178_2.symm.trans hx178_2); injection hv178_2 with hva_ hvn_ hvc_; rw [hva_] at ge178_2; rw [hvc_] at ul178_2; have HL178_2 := Aside0.mk (show Kd.V (Kd.int .u8) 5 _ w.heap.size _ _ ((rd_T44 t173 0).f2) from Kd.V_mk ul178_2 ge178_2); clear hva_ hvn_ hvc_ ge178_2 ul178_2; clear hcc178 hce178; have qi178 : (0 < t173.length) = True := eq_true (by omega); (try rw [show ((0 : Int)).toNat = 0 from rfl] at hx178_0); (try rw [show 0 * 3 = 0 from rfl] at hx178_0); (try rw [Addr.add_zero'] at hx178_0); (try rw [show ((0 : Int)).toNat = 0 from rfl] at hx178_1); (try rw [show 0 * 3 = 0 from rfl] at hx178_1); (try rw [Addr.add_zero'] at hx178_1); (try rw [show ((0 : Int)).toNat = 0 from rfl] at hx178_2); (try rw [show 0 * 3 = 0 from rfl] at hx178_2); (try rw [Addr.add_zero'] at hx178_2); have HR178_2 := Aside0.mk hi178_2; have HC178_2 := Aside0.mk hl178_2; clear hi178_2 hl178_2; replace p178 := eq_true p178; replace q178 := eq_true q178; have ea_ := Option.some.inj (hx177_2.symm.trans hx178_2); injection ea_ with ea_ en_ ec_; subst ea_; subst ec_; clear en_; have p179 : 0 ≤ (0 : Int) := (by omega); have q179 : 0 < (t173.length : Int) := of_decide_eq_true (by first | (with_reducible assumption) | assumption); obtain ⟨ad179, A179_2, c179_2, e179, hx179_0, hx179_1, hx179_2, hl179_2, hi179_2⟩ := at_T44 (Kd.N_reads' HO175.out).2.2 0 p179 q179; obtain rfl : ad177 = ad179 := (by injection e179); obtain ⟨ce179, hce179, hMe179, hcc179⟩ := Kd.N_get HO175.out z44 0 p179 (by first | exact q179 | exact of_decide_eq_true (by first | (with_reducible assumption) | assumption) | (have e_ := (Kd.N_reads' HO175.out).1; omega)); obtain ⟨ua179_2, uc179_2, rfl, ul179_2, ge179_2⟩ := k44_openF hMe179; have hv179_2 := hcc179 2 _ rfl; rw [add_field _ _ 2 (by omega)] at hv179_2; replace hv179_2 := Option.some.inj (hv179_2.symm.trans hx179_2); injection hv179_2 with hva_ hvn_ hvc_; rw [hva_] at ge179_2; rw [hvc_] at ul179_2; have HL179_2 := Aside0.mk (show Kd.V (Kd.int .u8) 5 _ w.heap.size _ _ ((rd_T44 t173 0).f2) from Kd.V_mk ul179_2 ge179_2); clear hva_ hvn_ hvc_ ge179_2 ul179_2; clear hcc179 hce179; have qi179 : (0 < t173.length) = True := eq_true (by omega); (try rw [show ((0 : Int)).toNat = 0 from rfl] at hx179_0); (try rw [show 0 * 3 = 0 from rfl] at hx179_0); (try rw [Addr.add_zero'] at hx179_0); (try rw [show ((0 : Int)).toNat = 0 from rfl] at hx179_1); (try rw [show 0 * 3 = 0 from rfl] at hx179_1); (try rw [Addr.add_zero'] at hx179_1); (try rw [show ((0 : Int)).toNat = 0 from rfl] at hx179_2); (try rw [show 0 * 3 = 0 from rfl] at hx179_2); (try rw [Addr.add_zero'] at hx179_2); have HR179_2 := Aside0.mk hi179_2; have HC179_2 := Aside0.mk hl179_2; clear hi179_2 hl179_2; replace p179 := eq_true p179; replace q179 := eq_true q179; have ea_ := Option.some.inj (hx177_2.symm.trans hx179_2); injection ea_ with ea_ en_ ec_; subst ea_; subst ec_; clear en_; have p180 : 0 ≤ (0 : Int) := (by omega); have q180 : 0 < (((rd_T44 t173 0).f2).length : Int) := of_decide_eq_true (by first | (with_reducible assumption) | assumption); obtain ⟨ad180, e180, hx180_0⟩ := Kd.at_int (by repeat (first | (with_reducible exact HR179_2.out) | (with_reducible refine Kd.C_alloc ?_ _) | (with_reducible refine Kd.C_drewN ?_ _) | (with_reducible refine Kd.C_drew ?_) | exact HR179_2.out)) 0 p180 q180; cases e180; have qi180 : (0 < ((rd_T44 t173 0).f2).length) = True := eq_true (by omega); (try rw [show ((0 : Int)).toNat = 0 from rfl] at hx180_0); (try rw [Addr.add_zero'] at hx180_0); replace p180 := eq_true p180; replace q180 := eq_true q180))
                      go_ret
                      exact ⟨by first | rfl | (simp [errW_none, errW_some] <;> rfl) | (simp [*, errW_none, errW_some] <;> rfl), by repeat (first | (with_reducible first | exact HB.out | apply below_alloc | apply pw_below_drewN | apply below_drew1) | exact HB.out)⟩
                    · rw [if_neg c13] at H
                      exact absurd H (by simp)
                  · rw [if_neg c12] at H
                    exact absurd H (by simp)
                · rw [if_neg c11] at H
                  exact absurd H (by simp)
              · rw [if_neg c10] at H
                exact absurd H (by simp)
            · rw [if_neg c9] at H
              exact absurd H (by simp)
          · rw [if_neg c8] at H
            exact absurd H (by simp)
        · rw [if_neg c7] at H
          exact absurd H (by simp)
      · rw [if_neg c6] at H
        exact absurd H (by simp)
    · rw [if_neg c5] at H
      exact absurd H (by simp)
  · rw [if_neg c4] at H
    exact absurd H (by simp)

/-! ### crossroadslaw22_TarReads: function 4 -/
def crossroadslaw22_TarReads.f (k : Nat) (l0 : List Int) : Option (Bool) := (crossroadslaw22_awake.f k).bind fun t181 => (if t181 = true then (if (l0.length : Int) > 20000 then (some true) else ((tar_Read.f k l0).bind fun bt182 => (if bt182.2 = 0 then ((tar_Write.f k bt182.1).bind fun bt186 => (if bt186.2 = 0 then (some ((strOfNums l0).toList == (strOfNums bt186.1).toList)) else (none))) else (if (bt182.1.length : Int) = 0 then (if bt182.2 = 4 then (some true) else (some (bt182.2 == 14))) else (none))))) else (none))
theorem crossroadslaw22_TarReads.mono : ∀ a0 k, LeO (crossroadslaw22_TarReads.f k a0) (crossroadslaw22_TarReads.f (k + 1) a0) := by
  intro a0 k
  unfold crossroadslaw22_TarReads.f
  repeat' first
      | (with_reducible exact crossroadslaw22_awake.mono _)
      | (with_reducible exact tar_Read.mono _ _)
      | (with_reducible exact tar_Write.mono _ _)
      | (with_reducible exact LeO.refl _)
      | (with_reducible exact LeO.none _)
      | (with_reducible refine LeO.ite ?_ ?_)
      | (with_reducible refine LeO.bind ?_ (fun _ => ?_))
      | exact crossroadslaw22_awake.mono _
      | exact tar_Read.mono _ _
      | exact tar_Write.mono _ _
      | exact LeO.none _
      | refine LeO.ite ?_ ?_
      | refine LeO.bind ?_ (fun _ => ?_)
set_option maxHeartbeats 8000000 in
set_option maxRecDepth 100000 in
theorem crossroadslaw22_TarReads.calls (k : Nat) (A0 : Option Addr) (c0 : Nat) (l0 : List Int) (r : Bool) (w : World) (hr0 : Kd.C (Kd.int .u8) w A0 l0.length l0) (hc0 : l0.length ≤ c0) (h : crossroadslaw22_TarReads.f k l0 = some r) :
    Calls Tryd.prog 4 #[.slice A0 l0.length c0] w fun e w' => e = .returned (.bool r) ∧ Below w.heap.size w w' := by
  have HR0 := Aside0.mk hr0
  have HC0 := Aside0.mk hc0
  clear hr0 hc0
  have HB := Aside0.mk (Below.refl w.heap.size w)
  have H : ((crossroadslaw22_awake.f k).bind fun t181 => (if t181 = true then (if (l0.length : Int) > 20000 then (some true) else ((tar_Read.f k l0).bind fun bt182 => (if bt182.2 = 0 then ((tar_Write.f k bt182.1).bind fun bt186 => (if bt186.2 = 0 then (some ((strOfNums l0).toList == (strOfNums bt186.1).toList)) else (none))) else (if (bt182.1.length : Int) = 0 then (if bt182.2 = 4 then (some true) else (some (bt182.2 == 14))) else (none))))) else (none))) = some r := h
  clear h
  replace H := Option.bind_eq_some_iff.mp H
  obtain ⟨t181, A20, H⟩ := H
  replace H : (if t181 = true then (if (l0.length : Int) > 20000 then (some true) else ((tar_Read.f k l0).bind fun bt182 => (if bt182.2 = 0 then ((tar_Write.f k bt182.1).bind fun bt186 => (if bt186.2 = 0 then (some ((strOfNums l0).toList == (strOfNums bt186.1).toList)) else (none))) else (if (bt182.1.length : Int) = 0 then (if bt182.2 = 4 then (some true) else (some (bt182.2 == 14))) else (none))))) else (none)) = some r := H
  have A2 := Aside0.mk A20
  clear A20
  by_cases c3 : t181 = true
  · subst c3
    have H1 : (if (l0.length : Int) > 20000 then (some true) else ((tar_Read.f k l0).bind fun bt182 => (if bt182.2 = 0 then ((tar_Write.f k bt182.1).bind fun bt186 => (if bt186.2 = 0 then (some ((strOfNums l0).toList == (strOfNums bt186.1).toList)) else (none))) else (if (bt182.1.length : Int) = 0 then (if bt182.2 = 4 then (some true) else (some (bt182.2 == 14))) else (none))))) = some r := by rw [if_pos rfl] at H; exact H
    clear H
    have H := H1
    clear H1
    by_cases c4 : (l0.length : Int) > 20000
    · rw [if_pos c4] at H
      have c4b0 : decide (20000 < (l0.length : Int)) = true := decide_eq_true c4
      have c4b1 : decide (20000 < l0.length) = true := decide_eq_true (by omega)
      clear c4
      obtain rfl := Option.some.inj H
      go_enter Tryd.func4, Tryd.ntmps4
      go_wp2_with (first | ((with_reducible refine gate_callee (f := 8) rfl ?_); refine goesL_ (some 7) rfl rfl Tryd.func8 (by kernel_rfl) rfl #[] rfl (by (try simp only [List.map_toArray, List.map_cons, List.map_nil]); first | done | rfl | (simp only [List.length_drop, List.length_take]; rfl)) ?_; (with_reducible refine (crossroadslaw22_awake.calls k  true _ A2.out).mono ?_); rintro e w5 ⟨rfl, hb⟩; refine ⟨_, rfl, ?_⟩; have n0_ := Aside0.mk (below_step (by repeat (first | (with_reducible first | exact HB.out | apply below_alloc | apply pw_below_drewN | apply below_drew1) | exact HB.out)) hb); clear HB; have HB := n0_; clear n0_; (try clear hb); (try clear hb2); (try clear hk); (try clear hi)))
      go_ret
      exact ⟨by first | rfl | (simp [errW_none, errW_some] <;> rfl) | (simp [*, errW_none, errW_some] <;> rfl), by repeat (first | (with_reducible first | exact HB.out | apply below_alloc | apply pw_below_drewN | apply below_drew1) | exact HB.out)⟩
    · rw [if_neg c4] at H
      have c4b0 : decide (20000 < (l0.length : Int)) = false := decide_eq_false c4
      have c4b1 : decide (20000 < l0.length) = false := decide_eq_false (by omega)
      clear c4
      replace H := Option.bind_eq_some_iff.mp H
      obtain ⟨⟨t182, t185⟩, A60, H⟩ := H
      replace H : (if t185 = 0 then ((tar_Write.f k t182).bind fun bt186 => (if bt186.2 = 0 then (some ((strOfNums l0).toList == (strOfNums bt186.1).toList)) else (none))) else (if (t182.length : Int) = 0 then (if t185 = 4 then (some true) else (some (t185 == 14))) else (none))) = some r := H
      have A6 := Aside0.mk A60
      clear A60
      by_cases c7 : t185 = 0
      · rw [if_pos c7] at H
        have c7b0 : (t185 == 0) = true := beq_iff_eq.mpr c7
        have c7b1 : (t185 != 0) = false := bne_eq_false_iff_eq.mpr c7
        clear c7
        replace H := Option.bind_eq_some_iff.mp H
        obtain ⟨⟨t186, t187⟩, A80, H⟩ := H
        replace H : (if t187 = 0 then (some ((strOfNums l0).toList == (strOfNums t186).toList)) else (none)) = some r := H
        have A8 := Aside0.mk A80
        clear A80
        by_cases c9 : t187 = 0
        · rw [if_pos c9] at H
          have c9b0 : (t187 == 0) = true := beq_iff_eq.mpr c9
          have c9b1 : (t187 != 0) = false := bne_eq_false_iff_eq.mpr c9
          clear c9
          obtain rfl := Option.some.inj H
          go_enter Tryd.func4, Tryd.ntmps4
          go_wp2_with (first | ((with_reducible refine gate_callee (f := 8) rfl ?_); refine goesL_ (some 7) rfl rfl Tryd.func8 (by kernel_rfl) rfl #[] rfl (by (try simp only [List.map_toArray, List.map_cons, List.map_nil]); first | done | rfl | (simp only [List.length_drop, List.length_take]; rfl)) ?_; (with_reducible refine (crossroadslaw22_awake.calls k  true _ A2.out).mono ?_); rintro e w10 ⟨rfl, hb⟩; refine ⟨_, rfl, ?_⟩; have n0_ := Aside0.mk (below_step (by repeat (first | (with_reducible first | exact HB.out | apply below_alloc | apply pw_below_drewN | apply below_drew1) | exact HB.out)) hb); clear HB; have HB := n0_; clear n0_; (try clear hb); (try clear hb2); (try clear hk); (try clear hi)) | ((with_reducible refine gate_callee (f := 13) rfl ?_); refine goesL_ (some 14) rfl rfl Tryd.func13 (by kernel_rfl) rfl #[.slice A0 l0.length c0] rfl (by (try simp only [List.map_toArray, List.map_cons, List.map_nil]); first | done | rfl | (simp only [List.length_drop, List.length_take]; rfl)) ?_; (with_reducible refine (tar_Read.calls k (fun k_ => k_ < w.heap.size) _ _ l0 t182 t185 _ ?side1 A6.out).mono ?_); (case side1 => exact Kd.V_mk HC0.out (Kd.F_below (Kd.C_F (Kd.heap_int .u8) HR0.out) (by repeat (first | (with_reducible first | exact HB.out | apply below_alloc | apply pw_below_drewN | apply below_drew1) | exact HB.out)))); rintro e w11 ⟨v183, rfl, ho0, hb⟩; refine ⟨_, rfl, ?_⟩; have n0_ := Aside0.mk (Kd.S_lower (Kd.S_mono (ok' := fun k_ => True) ho0 (fun _ hk_ => trivial)) (below_size (by repeat (first | (with_reducible first | exact HB.out | apply below_alloc | apply pw_below_drewN | apply below_drew1) | exact HB.out)))); have n1_ := Aside0.mk (below_step (by repeat (first | (with_reducible first | exact HB.out | apply below_alloc | apply pw_below_drewN | apply below_drew1) | exact HB.out)) hb); clear HB; have HO184 := n0_; have HB := n1_; clear n0_ n1_; (try clear hb); (try clear hb2); (try clear hk); (try clear hi); (try clear ho0); obtain ⟨Ao12, co12, eo12⟩ := Kd.S_slice HO184.out; subst eo12) | ((with_reducible refine gate_callee (f := 10) rfl ?_); refine goesL_ (some 32) rfl rfl Tryd.func10 (by kernel_rfl) rfl #[.slice Ao12 t182.length co12] rfl (by (try simp only [List.map_toArray, List.map_cons, List.map_nil]); first | done | rfl | (simp only [List.length_drop, List.length_take]; rfl)) ?_; (with_reducible refine (tar_Write.calls k _ _ t182 t186 t187 _ ?side1 ?side2 A8.out).mono ?_); (case side1 => repeat (first | exact (Kd.S_reads' HO184.out).2.2 | (with_reducible refine Kd.C_alloc ?_ _) | (with_reducible refine Kd.C_drewN ?_ _) | (with_reducible refine Kd.C_drew ?_))); (case side2 => exact (Kd.S_reads' HO184.out).2.1); rintro e w13 ⟨v188, rfl, ho0, hb⟩; refine ⟨_, rfl, ?_⟩; have n0_ := Aside0.mk (Kd.S_elder' (by (with_reducible repeat (first | apply Kd.S_alloc | apply Kd.S_drewN | apply Kd.S_drew)); exact HO184.out) (Kd.R_base ho0) hb); have n1_ := Aside0.mk (Kd.R_lower ho0 (below_size (by repeat (first | (with_reducible first | exact HB.out | apply below_alloc | apply pw_below_drewN | apply below_drew1) | exact HB.out)))); have n2_ := Aside0.mk (below_step (by repeat (first | (with_reducible first | exact HB.out | apply below_alloc | apply pw_below_drewN | apply below_drew1) | exact HB.out)) hb); clear HO184; clear HB; have HO184 := n0_; have HO189 := n1_; have HB := n2_; clear n0_ n1_ n2_; (try clear hb); (try clear hb2); (try clear hk); (try clear hi); (try clear ho0); have hcv14 := Kd.C_string (P := Tryd.prog) (A := A0) (c := c0) Tryd.underlying25 Tryd.underlying5 Tryd.underlying9 (Kd.C_below HR0.out HB.out); have hcv15 := own_string (P := Tryd.prog) Tryd.underlying25 Tryd.underlying5 Tryd.underlying9 (Kd.own_of_R HO189.out)))
          go_ret
          exact ⟨by first | rfl | (simp [errW_none, errW_some] <;> rfl) | (simp [*, errW_none, errW_some] <;> rfl), by repeat (first | (with_reducible first | exact HB.out | apply below_alloc | apply pw_below_drewN | apply below_drew1) | exact HB.out)⟩
        · rw [if_neg c9] at H
          exact absurd H (by simp)
      · rw [if_neg c7] at H
        have c7b0 : (t185 == 0) = false := beq_eq_false_iff_ne.mpr c7
        have c7b1 : (t185 != 0) = true := bne_iff_ne.mpr c7
        by_cases c16 : (t182.length : Int) = 0
        · rw [if_pos c16] at H
          have c16b0 : ((t182.length : Int) == 0) = true := beq_iff_eq.mpr c16
          have c16b1 : ((t182.length : Int) != 0) = false := bne_eq_false_iff_eq.mpr c16
          clear c16
          by_cases c17 : t185 = 4
          · rw [if_pos c17] at H
            have c17b0 : (t185 == 4) = true := beq_iff_eq.mpr c17
            have c17b1 : (t185 != 4) = false := bne_eq_false_iff_eq.mpr c17
            clear c17
            obtain rfl := Option.some.inj H
            go_enter Tryd.func4, Tryd.ntmps4
            go_wp2_with (first | ((with_reducible refine gate_callee (f := 8) rfl ?_); refine goesL_ (some 7) rfl rfl Tryd.func8 (by kernel_rfl) rfl #[] rfl (by (try simp only [List.map_toArray, List.map_cons, List.map_nil]); first | done | rfl | (simp only [List.length_drop, List.length_take]; rfl)) ?_; (with_reducible refine (crossroadslaw22_awake.calls k  true _ A2.out).mono ?_); rintro e w18 ⟨rfl, hb⟩; refine ⟨_, rfl, ?_⟩; have n0_ := Aside0.mk (below_step (by repeat (first | (with_reducible first | exact HB.out | apply below_alloc | apply pw_below_drewN | apply below_drew1) | exact HB.out)) hb); clear HB; have HB := n0_; clear n0_; (try clear hb); (try clear hb2); (try clear hk); (try clear hi)) | ((with_reducible refine gate_callee (f := 13) rfl ?_); refine goesL_ (some 14) rfl rfl Tryd.func13 (by kernel_rfl) rfl #[.slice A0 l0.length c0] rfl (by (try simp only [List.map_toArray, List.map_cons, List.map_nil]); first | done | rfl | (simp only [List.length_drop, List.length_take]; rfl)) ?_; (with_reducible refine (tar_Read.calls k (fun k_ => k_ < w.heap.size) _ _ l0 t182 t185 _ ?side1 A6.out).mono ?_); (case side1 => exact Kd.V_mk HC0.out (Kd.F_below (Kd.C_F (Kd.heap_int .u8) HR0.out) (by repeat (first | (with_reducible first | exact HB.out | apply below_alloc | apply pw_below_drewN | apply below_drew1) | exact HB.out)))); rintro e w19 ⟨v183, rfl, ho0, hb⟩; refine ⟨_, rfl, ?_⟩; have n0_ := Aside0.mk (Kd.S_lower (Kd.S_mono (ok' := fun k_ => True) ho0 (fun _ hk_ => trivial)) (below_size (by repeat (first | (with_reducible first | exact HB.out | apply below_alloc | apply pw_below_drewN | apply below_drew1) | exact HB.out)))); have n1_ := Aside0.mk (below_step (by repeat (first | (with_reducible first | exact HB.out | apply below_alloc | apply pw_below_drewN | apply below_drew1) | exact HB.out)) hb); clear HB; have HO184 := n0_; have HB := n1_; clear n0_ n1_; (try clear hb); (try clear hb2); (try clear hk); (try clear hi); (try clear ho0); obtain ⟨Ao20, co20, eo20⟩ := Kd.S_slice HO184.out; subst eo20))
            go_ret
            exact ⟨by first | rfl | (simp [errW_none, errW_some] <;> rfl) | (simp [*, errW_none, errW_some] <;> rfl), by repeat (first | (with_reducible first | exact HB.out | apply below_alloc | apply pw_below_drewN | apply below_drew1) | exact HB.out)⟩
          · rw [if_neg c17] at H
            have c17b0 : (t185 == 4) = false := beq_eq_false_iff_ne.mpr c17
            have c17b1 : (t185 != 4) = true := bne_iff_ne.mpr c17
            obtain rfl := Option.some.inj H
            go_enter Tryd.func4, Tryd.ntmps4
            go_wp2_with (first | ((with_reducible refine gate_callee (f := 8) rfl ?_); refine goesL_ (some 7) rfl rfl Tryd.func8 (by kernel_rfl) rfl #[] rfl (by (try simp only [List.map_toArray, List.map_cons, List.map_nil]); first | done | rfl | (simp only [List.length_drop, List.length_take]; rfl)) ?_; (with_reducible refine (crossroadslaw22_awake.calls k  true _ A2.out).mono ?_); rintro e w21 ⟨rfl, hb⟩; refine ⟨_, rfl, ?_⟩; have n0_ := Aside0.mk (below_step (by repeat (first | (with_reducible first | exact HB.out | apply below_alloc | apply pw_below_drewN | apply below_drew1) | exact HB.out)) hb); clear HB; have HB := n0_; clear n0_; (try clear hb); (try clear hb2); (try clear hk); (try clear hi)) | ((with_reducible refine gate_callee (f := 13) rfl ?_); refine goesL_ (some 14) rfl rfl Tryd.func13 (by kernel_rfl) rfl #[.slice A0 l0.length c0] rfl (by (try simp only [List.map_toArray, List.map_cons, List.map_nil]); first | done | rfl | (simp only [List.length_drop, List.length_take]; rfl)) ?_; (with_reducible refine (tar_Read.calls k (fun k_ => k_ < w.heap.size) _ _ l0 t182 t185 _ ?side1 A6.out).mono ?_); (case side1 => exact Kd.V_mk HC0.out (Kd.F_below (Kd.C_F (Kd.heap_int .u8) HR0.out) (by repeat (first | (with_reducible first | exact HB.out | apply below_alloc | apply pw_below_drewN | apply below_drew1) | exact HB.out)))); rintro e w22 ⟨v183, rfl, ho0, hb⟩; refine ⟨_, rfl, ?_⟩; have n0_ := Aside0.mk (Kd.S_lower (Kd.S_mono (ok' := fun k_ => True) ho0 (fun _ hk_ => trivial)) (below_size (by repeat (first | (with_reducible first | exact HB.out | apply below_alloc | apply pw_below_drewN | apply below_drew1) | exact HB.out)))); have n1_ := Aside0.mk (below_step (by repeat (first | (with_reducible first | exact HB.out | apply below_alloc | apply pw_below_drewN | apply below_drew1) | exact HB.out)) hb); clear HB; have HO184 := n0_; have HB := n1_; clear n0_ n1_; (try clear hb); (try clear hb2); (try clear hk); (try clear hi); (try clear ho0); obtain ⟨Ao23, co23, eo23⟩ := Kd.S_slice HO184.out; subst eo23))
            go_ret
            exact ⟨by first | rfl | (simp [errW_none, errW_some] <;> rfl) | (simp [*, errW_none, errW_some] <;> rfl), by repeat (first | (with_reducible first | exact HB.out | apply below_alloc | apply pw_below_drewN | apply below_drew1) | exact HB.out)⟩
        · rw [if_neg c16] at H
          exact absurd H (by simp)
  · replace c3 := Bool.eq_false_iff.mpr c3
    subst c3
    have H1 : (none) = some r := by rw [if_neg (show ¬ (false = true) by decide)] at H; exact H
    clear H
    have H := H1
    clear H1
    exact absurd H (by simp)

/-- THE ONE PURE STATEMENT of crossroadslaw22_TarReads. -/
def crossroadslaw22_TarReads.Pure : Prop := ∀ (l0 : List Int), (l0.length * 1 ≤ 140737488351232 ∧ l0.length ≤ 9223372036854775807 ∧ ∀ y1_ ∈ l0, (Lit.int .u8 y1_).wf = true) → ∃ k, crossroadslaw22_TarReads.f k l0 = some true

/-! ### crossroadslaw22_Small: function 9 -/
def crossroadslaw22_Small.l0 : Nat → List (S37) → Int → Int → Option (Bool)
  | 0, _, _, _ => none
  | k + 1, x0, x3, x4 => if x4 < (x0.length : Int) then (if 0 ≤ x4 then (crossroadslaw22_Small.l0 k x0 (wrap64 ((wrap64 (x3 + (((rd_T37 x0 x4).f0).size : Int))) + (((rd_T37 x0 x4).f2).length : Int))) (wrap64 (x4 + 1))) else (none)) else (if (x0.length : Int) ≤ 200 then (some (decide (x3 ≤ 200000))) else (some false))
def crossroadslaw22_Small.f (k : Nat) (l0 : List (S37)) : Option (Bool) := crossroadslaw22_Small.l0 k l0 0 0
theorem crossroadslaw22_Small.mono_l : ∀ k, (∀ y0 y1 y2, LeO (crossroadslaw22_Small.l0 k y0 y1 y2) (crossroadslaw22_Small.l0 (k + 1) y0 y1 y2))
  | 0 => fun _ _ _ r h => by simp [crossroadslaw22_Small.l0] at h
  | k + 1 => by
    have ih0 := crossroadslaw22_Small.mono_l k
    · intro y0 y1 y2
      unfold crossroadslaw22_Small.l0
      repeat' first
      | (with_reducible exact ih0 _ _ _)
      | (with_reducible exact LeO.refl _)
      | (with_reducible exact LeO.none _)
      | (with_reducible refine LeO.ite ?_ ?_)
      | (with_reducible refine LeO.bind ?_ (fun _ => ?_))
      | exact ih0 _ _ _
      | exact LeO.none _
      | refine LeO.ite ?_ ?_
      | refine LeO.bind ?_ (fun _ => ?_)
theorem crossroadslaw22_Small.mono : ∀ a0 k, LeO (crossroadslaw22_Small.f k a0) (crossroadslaw22_Small.f (k + 1) a0) := by
  intro a0 k
  have ih0 := crossroadslaw22_Small.mono_l k
  unfold crossroadslaw22_Small.f
  repeat' first
      | (with_reducible exact ih0 _ _ _)
      | (with_reducible exact LeO.refl _)
      | (with_reducible exact LeO.none _)
      | (with_reducible refine LeO.ite ?_ ?_)
      | (with_reducible refine LeO.bind ?_ (fun _ => ?_))
      | exact ih0 _ _ _
      | exact LeO.none _
      | refine LeO.ite ?_ ?_
      | refine LeO.bind ?_ (fun _ => ?_)
set_option maxHeartbeats 8000000 in
set_option maxRecDepth 100000 in
theorem crossroadslaw22_Small.calls (k : Nat) (A0 : Option Addr) (c0 : Nat) (l0 : List (S37)) (r : Bool) (w : World) (hr0 : Kd.C k37 w A0 l0.length l0) (hc0 : l0.length ≤ c0) (h : crossroadslaw22_Small.f k l0 = some r) :
    Calls Tryd.prog 9 #[.slice A0 l0.length c0] w fun e w' => e = .returned (.bool r) ∧ Drawn0 w w' := by
  have HR0 := Aside0.mk hr0
  have HC0 := Aside0.mk hc0
  clear hr0 hc0
  have H : (crossroadslaw22_Small.l0 k l0 0 0) = some r := h
  clear h
  have H' := Aside0.mk H
  clear H
  go_enter Tryd.func9, Tryd.ntmps9
  go_wp2
  repeat (go_quiet (fail); try go_wp2)
  go_loopg [3, 4] k (fun kq v3 v4 w' => ∃ (x3_1 : Int) (x4_1 : Int), v3 = .int .i64 x3_1 ∧ v4 = .int .i64 x4_1 ∧ Aside0 (crossroadslaw22_Small.l0 kq l0 x3_1 x4_1 = some r) ∧ Aside0 (kq ≤ k) ∧ Drawn0 w w')
  case atStart => exact ⟨(0), (0), (by first | rfl | (simp; done) | (simp [*]; done)), (by first | rfl | (simp; done) | (simp [*]; done)), H', ⟨Nat.le_refl _⟩, by repeat (first | exact Drawn0.refl _ | apply Drawn0.step)⟩
  case round =>
    clear H'
    obtain ⟨x3_1, x4_1, rfl, rfl, HA, HK1, ⟨m1, rfl⟩⟩ := hrel
    cases gk with
    | zero => exact absurd HA.out (by simp [crossroadslaw22_Small.l0])
    | succ k1 =>
      have H := HA.out
      clear HA
      simp only [crossroadslaw22_Small.l0] at H
      by_cases c2 : x4_1 < (l0.length : Int)
      · rw [if_pos c2] at H
        have c2b0 : decide (x4_1 < (l0.length : Int)) = true := decide_eq_true c2
        clear c2
        by_cases c3 : 0 ≤ x4_1
        · rw [if_pos c3] at H
          have c3b0 : decide (0 ≤ x4_1) = true := decide_eq_true c3
          clear c3
          have H' := Aside0.mk H
          clear H
          have p190 : 0 ≤ (x4_1 : Int) := of_decide_eq_true (by first | (with_reducible assumption) | assumption)
          have q190 : x4_1 < (l0.length : Int) := of_decide_eq_true (by first | (with_reducible assumption) | assumption)
          obtain ⟨ad190, A190_2, c190_2, e190, hx190_0, hx190_1, hx190_2, hl190_2, hi190_2⟩ := at_T37 HR0.out x4_1 p190 q190
          cases e190
          have HR190_2 := Aside0.mk hi190_2
          have HC190_2 := Aside0.mk hl190_2
          clear hi190_2 hl190_2
          replace p190 := eq_true p190
          replace q190 := eq_true q190
          have p191 : 0 ≤ (x4_1 : Int) := of_decide_eq_true (by first | (with_reducible assumption) | assumption)
          have q191 : x4_1 < (l0.length : Int) := of_decide_eq_true (by first | (with_reducible assumption) | assumption)
          obtain ⟨ad191, A191_2, c191_2, e191, hx191_0, hx191_1, hx191_2, hl191_2, hi191_2⟩ := at_T37 HR0.out x4_1 p191 q191
          obtain rfl : ad190 = ad191 := (by injection e191)
          have HR191_2 := Aside0.mk hi191_2
          have HC191_2 := Aside0.mk hl191_2
          clear hi191_2 hl191_2
          replace p191 := eq_true p191
          replace q191 := eq_true q191
          have ea_ := Option.some.inj (hx190_2.symm.trans hx191_2)
          injection ea_ with ea_ en_ ec_
          subst ea_
          subst ec_
          clear en_
          go_wp2
          repeat (go_quiet (fail); try go_wp2)
          go_roundg k1
          case measure => have := HK1.out; omega
          case rel => exact ⟨(wrap64 ((wrap64 (x3_1 + (((rd_T37 l0 x4_1).f0).size : Int))) + (((rd_T37 l0 x4_1).f2).length : Int))), (wrap64 (x4_1 + 1)), (by first | rfl | (simp; done) | (simp [*]; done)), (by first | rfl | (simp; done) | (simp [*]; done)), H', ⟨by have := HK1.out; omega⟩, by repeat (first | exact Drawn0.refl _ | apply Drawn0.step)⟩
        · rw [if_neg c3] at H
          exact absurd H (by simp)
      · rw [if_neg c2] at H
        have c2b0 : decide (x4_1 < (l0.length : Int)) = false := decide_eq_false c2
        clear c2
        by_cases c4 : (l0.length : Int) ≤ 200
        · rw [if_pos c4] at H
          have c4b0 : decide ((l0.length : Int) ≤ 200) = true := decide_eq_true c4
          have c4b1 : decide (l0.length ≤ 200) = true := decide_eq_true (by omega)
          clear c4
          obtain rfl := Option.some.inj H
          go_wp2
          repeat (go_quiet (fail); try go_wp2)
          go_ret
          exact ⟨by first | rfl | (simp; done) | (simp [*]; done), by repeat (first | exact Drawn0.refl _ | apply Drawn0.step)⟩
        · rw [if_neg c4] at H
          have c4b0 : decide ((l0.length : Int) ≤ 200) = false := decide_eq_false c4
          have c4b1 : decide (l0.length ≤ 200) = false := decide_eq_false (by omega)
          clear c4
          obtain rfl := Option.some.inj H
          go_wp2
          repeat (go_quiet (fail); try go_wp2)
          go_ret
          exact ⟨by first | rfl | (simp; done) | (simp [*]; done), by repeat (first | exact Drawn0.refl _ | apply Drawn0.step)⟩

/-! ### crossroadslaw22_Made: function 11 -/
def crossroadslaw22_Made.l0 : Nat → List (S37) → List (S44) → Int → Option ((List (S44)))
  | 0, _, _, _ => none
  | k + 1, x0, x3, x4 => if x4 < (x0.length : Int) then (if 0 ≤ x4 then (if x3.length < 2932031007402 then (crossroadslaw22_Made.l0 k x0 (x3 ++ [(⟨(rd_T37 x0 x4).f0, (rd_T37 x0 x4).f1, (rd_T37 x0 x4).f2⟩ : S44)]) (wrap64 (x4 + 1))) else (none)) else (none)) else (some x3)
def crossroadslaw22_Made.f (k : Nat) (l0 : List (S37)) : Option ((List (S44))) := crossroadslaw22_Made.l0 k l0 ([] : List (S44)) 0
theorem crossroadslaw22_Made.mono_l : ∀ k, (∀ y0 y1 y2, LeO (crossroadslaw22_Made.l0 k y0 y1 y2) (crossroadslaw22_Made.l0 (k + 1) y0 y1 y2))
  | 0 => fun _ _ _ r h => by simp [crossroadslaw22_Made.l0] at h
  | k + 1 => by
    have ih0 := crossroadslaw22_Made.mono_l k
    · intro y0 y1 y2
      unfold crossroadslaw22_Made.l0
      repeat' first
      | (with_reducible exact ih0 _ _ _)
      | (with_reducible exact LeO.refl _)
      | (with_reducible exact LeO.none _)
      | (with_reducible refine LeO.ite ?_ ?_)
      | (with_reducible refine LeO.bind ?_ (fun _ => ?_))
      | exact ih0 _ _ _
      | exact LeO.none _
      | refine LeO.ite ?_ ?_
      | refine LeO.bind ?_ (fun _ => ?_)
theorem crossroadslaw22_Made.mono : ∀ a0 k, LeO (crossroadslaw22_Made.f k a0) (crossroadslaw22_Made.f (k + 1) a0) := by
  intro a0 k
  have ih0 := crossroadslaw22_Made.mono_l k
  unfold crossroadslaw22_Made.f
  repeat' first
      | (with_reducible exact ih0 _ _ _)
      | (with_reducible exact LeO.refl _)
      | (with_reducible exact LeO.none _)
      | (with_reducible refine LeO.ite ?_ ?_)
      | (with_reducible refine LeO.bind ?_ (fun _ => ?_))
      | exact ih0 _ _ _
      | exact LeO.none _
      | refine LeO.ite ?_ ?_
      | refine LeO.bind ?_ (fun _ => ?_)
def crossroadslaw22_Made.T5 : Bool × List (List Nat × List Nat) := (true, [([], []), ([], []), ([], []), ([1, 2], [1, 2]), ([3], [3]), ([4], [4]), ([], []), ([], []), ([6, 7], [6, 7]), ([8], [8]), ([9], [9]), ([], []), ([], []), ([11, 12], [11, 12]), ([13], [13]), ([14], [14]), ([5, 10, 15], [5, 10, 15]), ([16], [16]), ([0, 17], [0, 17]), ([18, 18, 0, 1, 2, 3, 4, 5, 6, 7, 8, 9, 10, 11, 12, 13, 14, 15, 16, 17, 18], [0, 18])])
def crossroadslaw22_Made.B5 : List Nat := [0, 0, 0, 6, 14, 30, 0, 0, 192, 448, 960, 0, 0, 6144, 14336, 30720, 65534, 131070, 262143, 524287]
theorem crossroadslaw22_Made.tab5 : rtab .any (opsOf Tryd.f11 5) = crossroadslaw22_Made.T5 := by kernel_rfl
theorem crossroadslaw22_Made.bits5 : waitsOk crossroadslaw22_Made.T5.2 crossroadslaw22_Made.B5 = true := by kernel_rfl
set_option maxHeartbeats 8000000 in
set_option maxRecDepth 100000 in
theorem crossroadslaw22_Made.calls (k : Nat) (P0_ : Nat → Prop) (A0 : Option Addr) (c0 : Nat) (l0 : List (S37)) (r : List (S44)) (w : World) (hs0 : Kd.V k37 37 w w.heap.size (fun k_ => P0_ k_) (.slice A0 l0.length c0) l0) (h : crossroadslaw22_Made.f k l0 = some r) :
    Calls Tryd.prog 11 #[.slice A0 l0.length c0] w fun e w' => ∃ v0_ : Value, e = .returned (v0_) ∧ Kd.N k44 44 w' w.heap.size (fun k_ => (P0_ k_ ∨ w.heap.size ≤ k_)) v0_ r ∧ Below w.heap.size w w' := by
  have hu44 := Tryd.underlying44
  have HO0 := Aside0.mk (show Kd.V k37 37 w w.heap.size (fun k_ => (P0_ k_ ∨ w.heap.size ≤ k_)) (.slice A0 l0.length c0) l0 from Kd.V_mono hs0 (fun k_ hk => .inl hk))
  have HB := Aside0.mk (Below.refl w.heap.size w)
  have H : (crossroadslaw22_Made.l0 k l0 ([] : List (S44)) 0) = some r := h
  clear h
  have H' := Aside0.mk H
  clear H
  go_enter Tryd.func11, Tryd.ntmps11
  go_wp2
  go_loopg [3, 4] k (fun kq v3 v4 w' => ∃ (x3_1 : List (S44)) (x4_1 : Int), v4 = .int .i64 x4_1 ∧ Aside0 (crossroadslaw22_Made.l0 kq l0 x3_1 x4_1 = some r) ∧ Aside0 (kq ≤ k) ∧ Aside0 (Kd.V k37 37 w' w.heap.size (fun k_ => (P0_ k_ ∨ w.heap.size ≤ k_) ∧ some k_ ≠ (v3 : Value).ownBlock) (.slice A0 l0.length c0) l0) ∧ Aside0 (Kd.N k44 44 w' w.heap.size (fun k_ => (P0_ k_ ∨ w.heap.size ≤ k_)) v3 x3_1) ∧ Aside0 (Below w.heap.size w w'))
  case atStart => exact ⟨(([] : List (S44))), (0), (by first | rfl | (simp; done) | (simp [*]; done)), H', ⟨Nat.le_refl _⟩, ⟨by (with_reducible repeat (first | apply Kd.V_alloc | apply Kd.V_drewN | apply Kd.V_drew)); exact Kd.V_mono HO0.out (fun _ hk => ⟨hk, (by simp [Value.ownBlock])⟩)⟩, ⟨by first | exact Kd.S_nil _ _ _ _ _ | exact Kd.N_nil _ _ _ _ _ | exact Kd.V_nil _ _ _ _ _ | exact Kd.Q_nil _ _ _ _ _ | exact Kd.R_nil _ _ _ _ _⟩, ⟨by repeat (first | (with_reducible first | exact HB.out | apply below_alloc | apply pw_below_drewN | apply below_drew1) | exact HB.out)⟩⟩
  case round =>
    clear H'
    try clear c1
    obtain ⟨x3_1, x4_1, rfl, HA, HK1, HO_0, HO_3, HB⟩ := hrel
    cases gk with
    | zero => exact absurd HA.out (by simp [crossroadslaw22_Made.l0])
    | succ k1 =>
      have H := HA.out
      clear HA
      simp only [crossroadslaw22_Made.l0] at H
      by_cases c2 : x4_1 < (l0.length : Int)
      · rw [if_pos c2] at H
        have c2b0 : decide (x4_1 < (l0.length : Int)) = true := decide_eq_true c2
        clear c2
        by_cases c3 : 0 ≤ x4_1
        · rw [if_pos c3] at H
          have c3b0 : decide (0 ≤ x4_1) = true := decide_eq_true c3
          clear c3
          by_cases c4 : x3_1.length < 2932031007402
          · rw [if_pos c4] at H
            have LMc4 := Aside0.mk c4
            clear c4
            obtain ⟨y195, hy195⟩ : ∃ y_ : List (S44), y_ = (x3_1 ++ [(⟨(rd_T37 l0 x4_1).f0, (rd_T37 l0 x4_1).f1, (rd_T37 l0 x4_1).f2⟩ : S44)]) := ⟨_, rfl⟩
            replace H : (crossroadslaw22_Made.l0 k1 l0 y195 (wrap64 (x4_1 + 1))) = some r := by first | (rw [hy195]; with_reducible exact H) | (have H2_ := (Option.bind_some _ _).symm.trans H; rw [hy195]; with_reducible exact H2_) | (have H2_ := (Option.bind_some _ _).symm.trans H; with_reducible exact H2_) | with_reducible exact H | (rw [hy195]; exact H) | exact H
            have Ny195 := Aside0.mk hy195
            clear hy195
            have H' := Aside0.mk H
            clear H
            try go_wp2
            have n0_ := Aside0.mk (Kd.V_drew HO_0.out)
            have n1_ := Aside0.mk (Kd.N_drew HO_3.out)
            have n2_ := Aside0.mk (below_drew1 HB.out)
            clear HO_0
            clear HO_3
            clear HB
            have HO_0 := n0_
            have HO_3 := n1_
            have HB := n2_
            clear n0_ n1_ n2_
            have p192 : 0 ≤ (x4_1 : Int) := of_decide_eq_true (by first | (with_reducible assumption) | assumption)
            have q192 : x4_1 < (l0.length : Int) := of_decide_eq_true (by first | (with_reducible assumption) | assumption)
            obtain ⟨ad192, A192_2, c192_2, e192, hx192_0, hx192_1, hx192_2, hl192_2, hi192_2⟩ := at_T37 (Kd.V_reads' HO_0.out).2.2 x4_1 p192 q192
            cases e192
            obtain ⟨ce192, hce192, hMe192, hcc192⟩ := Kd.V_get HO_0.out z37 x4_1 p192 (by first | exact q192 | exact of_decide_eq_true (by first | (with_reducible assumption) | assumption) | (have e_ := (Kd.V_reads' HO_0.out).1; omega))
            obtain ⟨ua192_2, uc192_2, rfl, ul192_2, ge192_2⟩ := k37_openF hMe192
            have hv192_2 := hcc192 2 _ rfl
            rw [add_field _ _ 2 (by omega)] at hv192_2
            replace hv192_2 := Option.some.inj (hv192_2.symm.trans hx192_2)
            injection hv192_2 with hva_ hvn_ hvc_
            rw [hva_] at ge192_2
            rw [hvc_] at ul192_2
            have HL192_2 := Aside0.mk (show Kd.V (Kd.int .u8) 5 _ w.heap.size _ _ ((rd_T37 l0 x4_1).f2) from Kd.V_mk ul192_2 ge192_2)
            clear hva_ hvn_ hvc_ ge192_2 ul192_2
            clear hcc192 hce192
            have HR192_2 := Aside0.mk hi192_2
            have HC192_2 := Aside0.mk hl192_2
            clear hi192_2 hl192_2
            replace p192 := eq_true p192
            replace q192 := eq_true q192
            have p193 : 0 ≤ (x4_1 : Int) := of_decide_eq_true (by first | (with_reducible assumption) | assumption)
            have q193 : x4_1 < (l0.length : Int) := of_decide_eq_true (by first | (with_reducible assumption) | assumption)
            obtain ⟨ad193, A193_2, c193_2, e193, hx193_0, hx193_1, hx193_2, hl193_2, hi193_2⟩ := at_T37 (Kd.V_reads' HO_0.out).2.2 x4_1 p193 q193
            obtain rfl : ad192 = ad193 := (by injection e193)
            obtain ⟨ce193, hce193, hMe193, hcc193⟩ := Kd.V_get HO_0.out z37 x4_1 p193 (by first | exact q193 | exact of_decide_eq_true (by first | (with_reducible assumption) | assumption) | (have e_ := (Kd.V_reads' HO_0.out).1; omega))
            obtain ⟨ua193_2, uc193_2, rfl, ul193_2, ge193_2⟩ := k37_openF hMe193
            have hv193_2 := hcc193 2 _ rfl
            rw [add_field _ _ 2 (by omega)] at hv193_2
            replace hv193_2 := Option.some.inj (hv193_2.symm.trans hx193_2)
            injection hv193_2 with hva_ hvn_ hvc_
            rw [hva_] at ge193_2
            rw [hvc_] at ul193_2
            have HL193_2 := Aside0.mk (show Kd.V (Kd.int .u8) 5 _ w.heap.size _ _ ((rd_T37 l0 x4_1).f2) from Kd.V_mk ul193_2 ge193_2)
            clear hva_ hvn_ hvc_ ge193_2 ul193_2
            clear hcc193 hce193
            have HR193_2 := Aside0.mk hi193_2
            have HC193_2 := Aside0.mk hl193_2
            clear hi193_2 hl193_2
            replace p193 := eq_true p193
            replace q193 := eq_true q193
            have ea_ := Option.some.inj (hx192_2.symm.trans hx193_2)
            injection ea_ with ea_ en_ ec_
            subst ea_
            subst ec_
            clear en_
            have p194 : 0 ≤ (x4_1 : Int) := of_decide_eq_true (by first | (with_reducible assumption) | assumption)
            have q194 : x4_1 < (l0.length : Int) := of_decide_eq_true (by first | (with_reducible assumption) | assumption)
            obtain ⟨ad194, A194_2, c194_2, e194, hx194_0, hx194_1, hx194_2, hl194_2, hi194_2⟩ := at_T37 (Kd.V_reads' HO_0.out).2.2 x4_1 p194 q194
            obtain rfl : ad192 = ad194 := (by injection e194)
            obtain ⟨ce194, hce194, hMe194, hcc194⟩ := Kd.V_get HO_0.out z37 x4_1 p194 (by first | exact q194 | exact of_decide_eq_true (by first | (with_reducible assumption) | assumption) | (have e_ := (Kd.V_reads' HO_0.out).1; omega))
            obtain ⟨ua194_2, uc194_2, rfl, ul194_2, ge194_2⟩ := k37_openF hMe194
            have hv194_2 := hcc194 2 _ rfl
            rw [add_field _ _ 2 (by omega)] at hv194_2
            replace hv194_2 := Option.some.inj (hv194_2.symm.trans hx194_2)
            injection hv194_2 with hva_ hvn_ hvc_
            rw [hva_] at ge194_2
            rw [hvc_] at ul194_2
            have HL194_2 := Aside0.mk (show Kd.V (Kd.int .u8) 5 _ w.heap.size _ _ ((rd_T37 l0 x4_1).f2) from Kd.V_mk ul194_2 ge194_2)
            clear hva_ hvn_ hvc_ ge194_2 ul194_2
            clear hcc194 hce194
            have HR194_2 := Aside0.mk hi194_2
            have HC194_2 := Aside0.mk hl194_2
            clear hi194_2 hl194_2
            replace p194 := eq_true p194
            replace q194 := eq_true q194
            have ea_ := Option.some.inj (hx192_2.symm.trans hx194_2)
            injection ea_ with ea_ en_ ec_
            subst ea_
            subst ec_
            clear en_
            refine start_ (n := 20) (S := fun w' => w'.cell? (ad192.add ((x4_1).toNat * 3)) = some (.string ((rd_T37 l0 x4_1).f0)) ∧ w'.cell? ⟨(ad192.add ((x4_1).toNat * 3)).block, (ad192.add ((x4_1).toNat * 3)).off + 1, none⟩ = some (.bool ((rd_T37 l0 x4_1).f1)) ∧ w'.cell? ⟨(ad192.add ((x4_1).toNat * 3)).block, (ad192.add ((x4_1).toNat * 3)).off + 2, none⟩ = some (.slice A192_2 ((rd_T37 l0 x4_1).f2).length c192_2) ∧ w'.cell? (ad192.add ((x4_1).toNat * 3)) = some (.string ((rd_T37 l0 x4_1).f0)) ∧ w'.cell? ⟨(ad192.add ((x4_1).toNat * 3)).block, (ad192.add ((x4_1).toNat * 3)).off + 1, none⟩ = some (.bool ((rd_T37 l0 x4_1).f1)) ∧ w'.cell? ⟨(ad192.add ((x4_1).toNat * 3)).block, (ad192.add ((x4_1).toNat * 3)).off + 2, none⟩ = some (.slice A192_2 ((rd_T37 l0 x4_1).f2).length c192_2) ∧ w'.cell? (ad192.add ((x4_1).toNat * 3)) = some (.string ((rd_T37 l0 x4_1).f0)) ∧ w'.cell? ⟨(ad192.add ((x4_1).toNat * 3)).block, (ad192.add ((x4_1).toNat * 3)).off + 1, none⟩ = some (.bool ((rd_T37 l0 x4_1).f1)) ∧ w'.cell? ⟨(ad192.add ((x4_1).toNat * 3)).block, (ad192.add ((x4_1).toNat * 3)).off + 2, none⟩ = some (.slice A192_2 ((rd_T37 l0 x4_1).f2).length c192_2)) (ds := [17, 18]) #[false, false, false, false, false, false, false, false, false, false, false, false, false, false, false, false, false, false, false, false] (by kernel_rfl) rfl rfl ⟨hx192_0, hx192_1, hx192_2, hx193_0, hx193_1, hx193_2, hx194_0, hx194_1, hx194_2⟩ (fun hHeld => ?_); refine with_tabW crossroadslaw22_Made.tab5 crossroadslaw22_Made.bits5 (fun HT_ HW_ => ?_)
            generalize wr.drew = w5 at HO_0 HO_3 HB HL192_2 HL193_2 HL194_2 HR192_2 HR193_2 HR194_2 hx192_0 hx192_1 hx192_2 hx193_0 hx193_1 hx193_2 hx194_0 hx194_1 hx194_2 hHeld ⊢
            refine pure_ (i := 0) (N := some 11) (v := ?_) (a' := ?_) #[true, false, false, false, false, false, false, false, false, false, false, false, false, false, false, false, false, false, false, false] rfl rfl (any_of HT_.out (by kernel_rfl)) (fun _ _ _ h => h) (Or.inl ⟨by rfl, ?_⟩) ?_ ?_
            rotate_left
            · intro w'
              go_simp
              with_reducible rfl
            rotate_left
            · simp only [Act.put, List.setIfInBounds_toArray, List.set_cons_zero, List.set_cons_succ, i64_w, i32_w]
              rfl
            refine pure_ (i := 1) (N := some 12) (v := ?_) (a' := ?_) #[true, true, false, false, false, false, false, false, false, false, false, false, false, false, false, false, false, false, false, false] rfl rfl (any_of HT_.out (by kernel_rfl)) (fun _ _ _ h => h) (Or.inl ⟨by rfl, ?_⟩) ?_ ?_
            rotate_left
            · intro w'
              go_simp
              with_reducible rfl
            rotate_left
            · simp only [Act.put, List.setIfInBounds_toArray, List.set_cons_zero, List.set_cons_succ, i64_w, i32_w]
              rfl
            refine pure_ (i := 2) (N := some 13) (v := ?_) (a' := ?_) #[true, true, true, false, false, false, false, false, false, false, false, false, false, false, false, false, false, false, false, false] rfl rfl (any_of HT_.out (by kernel_rfl)) (fun _ _ _ h => h) (Or.inl ⟨by rfl, ?_⟩) ?_ ?_
            rotate_left
            · intro w'
              go_simp
              with_reducible rfl
            rotate_left
            · simp only [Act.put, List.setIfInBounds_toArray, List.set_cons_zero, List.set_cons_succ, i64_w, i32_w]
              rfl
            refine pure_ (i := 3) (N := some 14) (v := ?_) (a' := ?_) #[true, true, true, true, false, false, false, false, false, false, false, false, false, false, false, false, false, false, false, false] rfl rfl (any_of HT_.out (by kernel_rfl)) (fun _ _ _ h => h) (Or.inl ⟨by rfl, ?_⟩) ?_ ?_
            rotate_left
            · intro w'
              go_simp
              with_reducible rfl
            rotate_left
            · simp only [Act.put, List.setIfInBounds_toArray, List.set_cons_zero, List.set_cons_succ, i64_w, i32_w]
              rfl
            refine pure_ (i := 4) (N := some 15) (v := ?_) (a' := ?_) #[true, true, true, true, true, false, false, false, false, false, false, false, false, false, false, false, false, false, false, false] rfl rfl (any_of HT_.out (by kernel_rfl)) (fun _ _ _ h => h) (Or.inl ⟨by rfl, ?_⟩) ?_ ?_
            rotate_left
            · intro w'
              go_simp
              with_reducible rfl
            rotate_left
            · simp only [Act.put, List.setIfInBounds_toArray, List.set_cons_zero, List.set_cons_succ, i64_w, i32_w]
              rfl
            refine pure_ (i := 6) (N := some 17) (v := ?_) (a' := ?_) #[true, true, true, true, true, false, true, false, false, false, false, false, false, false, false, false, false, false, false, false] rfl rfl (any_of HT_.out (by kernel_rfl)) (fun _ _ _ h => h) (Or.inl ⟨by rfl, ?_⟩) ?_ ?_
            rotate_left
            · intro w'
              go_simp
              with_reducible rfl
            rotate_left
            · simp only [Act.put, List.setIfInBounds_toArray, List.set_cons_zero, List.set_cons_succ, i64_w, i32_w]
              rfl
            refine pure_ (i := 7) (N := some 18) (v := ?_) (a' := ?_) #[true, true, true, true, true, false, true, true, false, false, false, false, false, false, false, false, false, false, false, false] rfl rfl (any_of HT_.out (by kernel_rfl)) (fun _ _ _ h => h) (Or.inl ⟨by rfl, ?_⟩) ?_ ?_
            rotate_left
            · intro w'
              go_simp
              with_reducible rfl
            rotate_left
            · simp only [Act.put, List.setIfInBounds_toArray, List.set_cons_zero, List.set_cons_succ, i64_w, i32_w]
              rfl
            refine pure_ (i := 8) (N := some 19) (v := ?_) (a' := ?_) #[true, true, true, true, true, false, true, true, true, false, false, false, false, false, false, false, false, false, false, false] rfl rfl (any_of HT_.out (by kernel_rfl)) (fun _ _ _ h => h) (Or.inl ⟨by rfl, ?_⟩) ?_ ?_
            rotate_left
            · intro w'
              go_simp
              with_reducible rfl
            rotate_left
            · simp only [Act.put, List.setIfInBounds_toArray, List.set_cons_zero, List.set_cons_succ, i64_w, i32_w]
              rfl
            refine pure_ (i := 9) (N := some 20) (v := ?_) (a' := ?_) #[true, true, true, true, true, false, true, true, true, true, false, false, false, false, false, false, false, false, false, false] rfl rfl (any_of HT_.out (by kernel_rfl)) (fun _ _ _ h => h) (Or.inl ⟨by rfl, ?_⟩) ?_ ?_
            rotate_left
            · intro w'
              go_simp
              with_reducible rfl
            rotate_left
            · simp only [Act.put, List.setIfInBounds_toArray, List.set_cons_zero, List.set_cons_succ, i64_w, i32_w]
              rfl
            refine pure_ (i := 11) (N := some 22) (v := ?_) (a' := ?_) #[true, true, true, true, true, false, true, true, true, true, false, true, false, false, false, false, false, false, false, false] rfl rfl (any_of HT_.out (by kernel_rfl)) (fun _ _ _ h => h) (Or.inl ⟨by rfl, ?_⟩) ?_ ?_
            rotate_left
            · intro w'
              go_simp
              with_reducible rfl
            rotate_left
            · simp only [Act.put, List.setIfInBounds_toArray, List.set_cons_zero, List.set_cons_succ, i64_w, i32_w]
              rfl
            refine pure_ (i := 12) (N := some 23) (v := ?_) (a' := ?_) #[true, true, true, true, true, false, true, true, true, true, false, true, true, false, false, false, false, false, false, false] rfl rfl (any_of HT_.out (by kernel_rfl)) (fun _ _ _ h => h) (Or.inl ⟨by rfl, ?_⟩) ?_ ?_
            rotate_left
            · intro w'
              go_simp
              with_reducible rfl
            rotate_left
            · simp only [Act.put, List.setIfInBounds_toArray, List.set_cons_zero, List.set_cons_succ, i64_w, i32_w]
              rfl
            refine pure_ (i := 13) (N := some 24) (v := ?_) (a' := ?_) #[true, true, true, true, true, false, true, true, true, true, false, true, true, true, false, false, false, false, false, false] rfl rfl (any_of HT_.out (by kernel_rfl)) (fun _ _ _ h => h) (Or.inl ⟨by rfl, ?_⟩) ?_ ?_
            rotate_left
            · intro w'
              go_simp
              with_reducible rfl
            rotate_left
            · simp only [Act.put, List.setIfInBounds_toArray, List.set_cons_zero, List.set_cons_succ, i64_w, i32_w]
              rfl
            refine pure_ (i := 14) (N := some 25) (v := ?_) (a' := ?_) #[true, true, true, true, true, false, true, true, true, true, false, true, true, true, true, false, false, false, false, false] rfl rfl (any_of HT_.out (by kernel_rfl)) (fun _ _ _ h => h) (Or.inl ⟨by rfl, ?_⟩) ?_ ?_
            rotate_left
            · intro w'
              go_simp
              with_reducible rfl
            rotate_left
            · simp only [Act.put, List.setIfInBounds_toArray, List.set_cons_zero, List.set_cons_succ, i64_w, i32_w]
              rfl
            refine take_ (i := 5) (N := some 16) (v := ?_) (a' := ?_) #[true, true, true, true, true, true, true, true, true, true, false, true, true, true, true, false, false, false, false, false] rfl rfl (take_ofW HT_.out HW_.out (by kernel_rfl)) (fun _ _ _ h => h) (Or.inl ⟨by rfl, ?_⟩) hHeld ?_ ?_
            rotate_left
            · rintro w' ⟨s0, s1, s2, s3, s4, s5, s6, s7, s8⟩
              go_simp
              with_reducible rfl
            rotate_left
            · simp only [Act.put, List.setIfInBounds_toArray, List.set_cons_zero, List.set_cons_succ, i64_w, i32_w]
              rfl
            refine take_ (i := 10) (N := some 21) (v := ?_) (a' := ?_) #[true, true, true, true, true, true, true, true, true, true, true, true, true, true, true, false, false, false, false, false] rfl rfl (take_ofW HT_.out HW_.out (by kernel_rfl)) (fun _ _ _ h => h) (Or.inl ⟨by rfl, ?_⟩) hHeld ?_ ?_
            rotate_left
            · rintro w' ⟨s0, s1, s2, s3, s4, s5, s6, s7, s8⟩
              go_simp
              with_reducible rfl
            rotate_left
            · simp only [Act.put, List.setIfInBounds_toArray, List.set_cons_zero, List.set_cons_succ, i64_w, i32_w]
              rfl
            refine take_ (i := 15) (N := some 26) (v := ?_) (a' := ?_) #[true, true, true, true, true, true, true, true, true, true, true, true, true, true, true, true, false, false, false, false] rfl rfl (take_ofW HT_.out HW_.out (by kernel_rfl)) (fun _ _ _ h => h) (Or.inl ⟨by rfl, ?_⟩) hHeld ?_ ?_
            rotate_left
            · rintro w' ⟨s0, s1, s2, s3, s4, s5, s6, s7, s8⟩
              go_simp
              with_reducible rfl
            rotate_left
            · simp only [Act.put, List.setIfInBounds_toArray, List.set_cons_zero, List.set_cons_succ, i64_w, i32_w]
              rfl
            refine pure_ (i := 16) (N := some 27) (v := ?_) (a' := ?_) #[true, true, true, true, true, true, true, true, true, true, true, true, true, true, true, true, true, false, false, false] rfl rfl (any_of HT_.out (by kernel_rfl)) (fun _ _ _ h => h) (Or.inl ⟨by rfl, ?_⟩) ?_ ?_
            rotate_left
            · intro w'
              go_simp
              with_reducible rfl
            rotate_left
            · simp only [Act.put, List.setIfInBounds_toArray, List.set_cons_zero, List.set_cons_succ, i64_w, i32_w]
              rfl
            refine last_ (i := 17) (N := some 28) #[true, true, true, true, true, true, true, true, true, true, true, true, true, true, true, true, true, true, false, false] rfl rfl (one_of HT_.out (by kernel_rfl)) (by decide) (fun K hK => ?_)
            refine value_ (w1 := ?_) (v := ?_) (by rfl) rfl ?_ ?_
            rotate_left 2
            · go_simp
              constructor
              · rfl
              · rfl
            refine hK.out _ _ ?_
            clear hK K
            refine norm_ (a' := ?_) ?_ ?_
            rotate_left
            · show Act.put _ (some 28) _ = _
              simp only [Act.put, List.setIfInBounds_toArray, List.set_cons_zero, List.set_cons_succ, i64_w, i32_w]
              rfl
            refine last_ (i := 18) (N := some 29) #[true, true, true, true, true, true, true, true, true, true, true, true, true, true, true, true, true, true, true, false] rfl rfl (one_of HT_.out (by kernel_rfl)) (by decide) (fun K hK => ?_)
            refine Kd.N_append_step k44 (w0 := w) w.heap.size (by rfl) (.tmp 11) (.tmp 28) 29 44 (.agg #[(.string ⟨#[]⟩), (.bool false), (.slice none 0 0)]) 48 rfl Tryd.underlying29 info44 rfl (by decide) (by omega) u3 x3_1 (⟨(rd_T37 l0 x4_1).f0, (rd_T37 l0 x4_1).f1, (rd_T37 l0 x4_1).f2⟩ : S44) [.string ((rd_T37 l0 x4_1).f0), .bool ((rd_T37 l0 x4_1).f1), .slice A192_2 ((rd_T37 l0 x4_1).f2).length c192_2] (fun k_ => (P0_ k_ ∨ w.heap.size ≤ k_)) (fun k_ => ((fun k_ => (P0_ k_ ∨ w.heap.size ≤ k_))) k_ ∧ some k_ ≠ (u3 : Value).ownBlock) rfl rfl ?aP (fun _ hk => hk) ?aF ?aO ?aB ?aS ?aL ?_
            (case aP => exact (k44_mkF _ _ (⟨(rd_T37 l0 x4_1).f0, (rd_T37 l0 x4_1).f1, (rd_T37 l0 x4_1).f2⟩ : S44) (Kd.V_reads' (Kd.V_mono (ok' := (fun k_ => ((fun k_ => (P0_ k_ ∨ w.heap.size ≤ k_))) k_ ∧ some k_ ≠ (u3 : Value).ownBlock)) (HL194_2.out) (fun k_ hk => ⟨hk.1, hk.2⟩))).2.1 (Kd.V_F (Kd.V_mono (ok' := (fun k_ => ((fun k_ => (P0_ k_ ∨ w.heap.size ≤ k_))) k_ ∧ some k_ ≠ (u3 : Value).ownBlock)) (HL194_2.out) (fun k_ hk => ⟨hk.1, hk.2⟩)))))
            (case aB => exact (by repeat (first | (with_reducible first | exact HB.out | apply below_alloc | apply pw_below_drewN | apply below_drew1) | exact HB.out)))
            (case aF => exact (fun k_ hk => (.inr (Nat.le_trans (below_size (by repeat (first | (with_reducible first | exact HB.out | apply below_alloc | apply pw_below_drewN | apply below_drew1) | exact HB.out))) hk))))
            (case aO => exact (by (with_reducible repeat (first | apply Kd.N_alloc | apply Kd.N_drewN | apply Kd.N_drew)); exact HO_3.out))
            (case aS => exact (below_size (by repeat (first | (with_reducible first | exact HB.out | apply below_alloc | apply pw_below_drewN | apply below_drew1) | exact HB.out))))
            (case aL => have := LMc4.out; omega)
            intro v196 w6 ho hb hg hat
            rw [← Ny195.out] at ho
            have n0_ := Aside0.mk (Kd.V_afterv (ok := (fun k_ => (P0_ k_ ∨ w.heap.size ≤ k_))) (by (with_reducible repeat (first | apply Kd.V_alloc | apply Kd.V_drewN | apply Kd.V_drew)); exact HO_0.out) hg hat)
            have n1_ := Aside0.mk (Kd.V_afterv (ok := (fun k_ => (P0_ k_ ∨ w.heap.size ≤ k_))) (by (with_reducible repeat (first | apply Kd.V_alloc | apply Kd.V_drewN | apply Kd.V_drew)); exact HL192_2.out) hg hat)
            have n2_ := Aside0.mk (Kd.V_afterv (ok := (fun k_ => (P0_ k_ ∨ w.heap.size ≤ k_))) (by (with_reducible repeat (first | apply Kd.V_alloc | apply Kd.V_drewN | apply Kd.V_drew)); exact HL193_2.out) hg hat)
            have n3_ := Aside0.mk (Kd.V_afterv (ok := (fun k_ => (P0_ k_ ∨ w.heap.size ≤ k_))) (by (with_reducible repeat (first | apply Kd.V_alloc | apply Kd.V_drewN | apply Kd.V_drew)); exact HL194_2.out) hg hat)
            have n4_ := Aside0.mk (hb)
            have n5_ := Aside0.mk (ho)
            clear HO_0
            clear HL192_2
            clear HL193_2
            clear HL194_2
            clear HB
            clear HO_3
            have HO_0 := n0_
            have HL192_2 := n1_
            have HL193_2 := n2_
            have HL194_2 := n3_
            have HB := n4_
            have HO197 := n5_
            clear n0_ n1_ n2_ n3_ n4_ n5_
            clear ho hb hg hat
            refine hK.out _ _ ?_
            clear hK K
            refine norm_ (a' := ?_) ?_ ?_
            rotate_left
            · show Act.put _ (some 29) _ = _
              simp only [Act.put, List.setIfInBounds_toArray, List.set_cons_zero, List.set_cons_succ, i64_w, i32_w]
              rfl
            refine pure_ (i := 19) (N := some 3) (v := ?_) (a' := ?_) #[true, true, true, true, true, true, true, true, true, true, true, true, true, true, true, true, true, true, true, true] rfl rfl (any_of HT_.out (by kernel_rfl)) (fun _ _ _ h => h) (Or.inl ⟨by rfl, ?_⟩) ?_ ?_
            rotate_left
            · intro w'
              go_simp
              with_reducible rfl
            rotate_left
            · simp only [Act.put, List.setIfInBounds_toArray, List.set_cons_zero, List.set_cons_succ, i64_w, i32_w]
              rfl
            refine done_ (done_of HT_.out (by kernel_rfl)) ?_
            try go_wp2
            go_roundg k1
            case measure => have := HK1.out; omega
            case rel => exact ⟨(y195), (wrap64 (x4_1 + 1)), (by first | rfl | (simp; done) | (simp [*]; done)), H', ⟨by have := HK1.out; omega⟩, ⟨by (with_reducible repeat (first | apply Kd.V_alloc | apply Kd.V_drewN | apply Kd.V_drew)); exact HO_0.out⟩, ⟨by (with_reducible repeat (first | apply Kd.N_alloc | apply Kd.N_drewN | apply Kd.N_drew)); exact HO197.out⟩, ⟨by repeat (first | (with_reducible first | exact HB.out | apply below_alloc | apply pw_below_drewN | apply below_drew1) | exact HB.out)⟩⟩
          · rw [if_neg c4] at H
            exact absurd H (by simp)
        · rw [if_neg c3] at H
          exact absurd H (by simp)
      · rw [if_neg c2] at H
        have c2b0 : decide (x4_1 < (l0.length : Int)) = false := decide_eq_false c2
        clear c2
        obtain rfl := Option.some.inj H
        go_wp2
        go_ret
        exact ⟨_, by first | rfl | (simp [errW_none, errW_some] <;> rfl) | (simp [*, errW_none, errW_some] <;> rfl), by (with_reducible repeat (first | apply Kd.N_alloc | apply Kd.N_drewN | apply Kd.N_drew)); exact HO_3.out, by repeat (first | (with_reducible first | exact HB.out | apply below_alloc | apply pw_below_drewN | apply below_drew1) | exact HB.out)⟩

end Go.Proofs.YtlnogacjebbepaaDoor.P
