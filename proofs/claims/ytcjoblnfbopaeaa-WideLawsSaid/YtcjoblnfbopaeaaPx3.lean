-- Laid by a program of this session (the kit's print, changed): Lean checks it.
import Derived.Test.YtcjoblnfbopaeaaPx0
import Derived.Test.YtcjoblnfbopaeaaPx1
namespace Go.Proofs.Ytcjoblnfbopaeaa.P
open Go.RowKit Go.Proofs.YtcjoblnfbopaeaaW.PrintWords Go.Proofs.YtcjoblnfbopaeaaW.PrintLast Go.Proofs.YtcjoblnfbopaeaaW.PrintMore
attribute [local go_sem] max2_int min2_int max_two min_two max_three min_three max_four min_four   -- for this text's walks alone
set_option linter.unusedVariables false
set_option linter.unusedSimpArgs false

/-! ### crossroadslaw1_WideKnown: function 4 -/
def crossroadslaw1_WideKnown.l0 : Nat → List (S34) → Int → Option (Bool)
  | 0, _, _ => none
  | k + 1, x1, x2 => if x2 < (x1.length : Int) then (if 0 ≤ x2 then ((wide_Do.f ((rd_T34 x1 x2).f0) ((rd_T34 x1 x2).f1) ((rd_T34 x1 x2).f2) ((rd_T34 x1 x2).f3)).bind fun bt162 => (if bt162.2 = 0 then (if bt162.1 = ((rd_T34 x1 x2).f4) then (crossroadslaw1_WideKnown.l0 k x1 (wrap64 (x2 + 1))) else (some false)) else (some false))) else (none)) else ((wide_Do.f 7 4 1 1).bind fun bt165 => ((wide_Do.f 16 8 1 1).bind fun bt167 => ((wide_Do.f 0 9 1 1).bind fun bt169 => (if bt165.2 = 2 then (if bt167.2 = 5 then (if bt169.2 = 2 then ((wide_Signed.f 1 1).bind fun t171 => (if t171 = (-1) then ((wide_Signed.f 16 32768).bind fun t172 => (if t172 = (-32768) then ((wide_Of.f 1 6).bind fun t173 => (if t173 = 0 then ((wide_Of.f 16 (-2)).bind fun t174 => (if t174 = 65534 then ((wide_Mask.f 7).bind fun t175 => (if t175 = 0 then ((wide_Out.f 2 8).bind fun t176 => (some (t176 == 0))) else (some false))) else (some false))) else (some false))) else (some false))) else (some false))) else (some false)) else (some false)) else (some false)))))
def crossroadslaw1_WideKnown.f (k : Nat)  : Option (Bool) := (crossroadslaw1_awake.f).bind fun t154 => (if t154 = true then (crossroadslaw1_WideKnown.l0 k (([(⟨3, 8, 511, 0, 0⟩ : S34), (⟨7, 8, 200, 100, 44⟩ : S34), (⟨8, 16, 0, 1, 65535⟩ : S34), (⟨9, 8, 16, 16, 0⟩ : S34), (⟨10, 8, 7, 0, 255⟩ : S34), (⟨11, 16, 7, 0, 7⟩ : S34), (⟨10, 1, 1, 0, 1⟩ : S34), (⟨12, 8, 1, 7, 128⟩ : S34), (⟨12, 8, 1, 8, 0⟩ : S34), (⟨13, 16, 32768, 15, 1⟩ : S34), (⟨13, 16, 32768, 16, 0⟩ : S34), (⟨12, 1, 1, 1, 0⟩ : S34), (⟨14, 8, 257, 1, 1⟩ : S34), (⟨15, 8, 256, 1, 1⟩ : S34), (⟨15, 16, 32768, 1, 0⟩ : S34), (⟨6, 1, 1, 1, 0⟩ : S34), (⟨9, 1, 1, 1, 1⟩ : S34), (⟨12, 16, 1, 256, 0⟩ : S34)] : List (S34))) 0) else (some false))
theorem crossroadslaw1_WideKnown.mono_l : ∀ k, (∀ y0 y1, LeO (crossroadslaw1_WideKnown.l0 k y0 y1) (crossroadslaw1_WideKnown.l0 (k + 1) y0 y1))
  | 0 => fun _ _ r h => by simp [crossroadslaw1_WideKnown.l0] at h
  | k + 1 => by
    have ih0 := crossroadslaw1_WideKnown.mono_l k
    · intro y0 y1
      unfold crossroadslaw1_WideKnown.l0
      repeat' first
      | (with_reducible exact ih0 _ _)
      | (with_reducible exact LeO.refl _)
      | (with_reducible exact LeO.none _)
      | (with_reducible refine LeO.ite ?_ ?_)
      | (with_reducible refine LeO.bind ?_ (fun _ => ?_))
      | exact ih0 _ _
      | exact LeO.none _
      | refine LeO.ite ?_ ?_
      | refine LeO.bind ?_ (fun _ => ?_)
theorem crossroadslaw1_WideKnown.mono : ∀ k, LeO (crossroadslaw1_WideKnown.f k ) (crossroadslaw1_WideKnown.f (k + 1) ) := by
  intro  k
  have ih0 := crossroadslaw1_WideKnown.mono_l k
  unfold crossroadslaw1_WideKnown.f
  repeat' first
      | (with_reducible exact ih0 _ _)
      | (with_reducible exact LeO.refl _)
      | (with_reducible exact LeO.none _)
      | (with_reducible refine LeO.ite ?_ ?_)
      | (with_reducible refine LeO.bind ?_ (fun _ => ?_))
      | exact ih0 _ _
      | exact LeO.none _
      | refine LeO.ite ?_ ?_
      | refine LeO.bind ?_ (fun _ => ?_)
set_option maxHeartbeats 8000000 in
set_option maxRecDepth 100000 in
theorem crossroadslaw1_WideKnown.calls (k : Nat)  (r : Bool) (w : World) (h : crossroadslaw1_WideKnown.f k  = some r) :
    Calls Try.prog 4 #[] w fun e w' => e = .returned (.bool r) ∧ Below w.heap.size w w' := by
  have hu34 := Try.underlying34
  have HB := Aside0.mk (Below.refl w.heap.size w)
  have H : ((crossroadslaw1_awake.f).bind fun t154 => (if t154 = true then (crossroadslaw1_WideKnown.l0 k (([(⟨3, 8, 511, 0, 0⟩ : S34), (⟨7, 8, 200, 100, 44⟩ : S34), (⟨8, 16, 0, 1, 65535⟩ : S34), (⟨9, 8, 16, 16, 0⟩ : S34), (⟨10, 8, 7, 0, 255⟩ : S34), (⟨11, 16, 7, 0, 7⟩ : S34), (⟨10, 1, 1, 0, 1⟩ : S34), (⟨12, 8, 1, 7, 128⟩ : S34), (⟨12, 8, 1, 8, 0⟩ : S34), (⟨13, 16, 32768, 15, 1⟩ : S34), (⟨13, 16, 32768, 16, 0⟩ : S34), (⟨12, 1, 1, 1, 0⟩ : S34), (⟨14, 8, 257, 1, 1⟩ : S34), (⟨15, 8, 256, 1, 1⟩ : S34), (⟨15, 16, 32768, 1, 0⟩ : S34), (⟨6, 1, 1, 1, 0⟩ : S34), (⟨9, 1, 1, 1, 1⟩ : S34), (⟨12, 16, 1, 256, 0⟩ : S34)] : List (S34))) 0) else (some false))) = some r := h
  clear h
  replace H := Option.bind_eq_some_iff.mp H
  obtain ⟨t154, A10, H⟩ := H
  replace H : (if t154 = true then (crossroadslaw1_WideKnown.l0 k (([(⟨3, 8, 511, 0, 0⟩ : S34), (⟨7, 8, 200, 100, 44⟩ : S34), (⟨8, 16, 0, 1, 65535⟩ : S34), (⟨9, 8, 16, 16, 0⟩ : S34), (⟨10, 8, 7, 0, 255⟩ : S34), (⟨11, 16, 7, 0, 7⟩ : S34), (⟨10, 1, 1, 0, 1⟩ : S34), (⟨12, 8, 1, 7, 128⟩ : S34), (⟨12, 8, 1, 8, 0⟩ : S34), (⟨13, 16, 32768, 15, 1⟩ : S34), (⟨13, 16, 32768, 16, 0⟩ : S34), (⟨12, 1, 1, 1, 0⟩ : S34), (⟨14, 8, 257, 1, 1⟩ : S34), (⟨15, 8, 256, 1, 1⟩ : S34), (⟨15, 16, 32768, 1, 0⟩ : S34), (⟨6, 1, 1, 1, 0⟩ : S34), (⟨9, 1, 1, 1, 1⟩ : S34), (⟨12, 16, 1, 256, 0⟩ : S34)] : List (S34))) 0) else (some false)) = some r := H
  have A1 := Aside0.mk A10
  clear A10
  by_cases c2 : t154 = true
  · subst c2
    have H1 : (crossroadslaw1_WideKnown.l0 k (([(⟨3, 8, 511, 0, 0⟩ : S34), (⟨7, 8, 200, 100, 44⟩ : S34), (⟨8, 16, 0, 1, 65535⟩ : S34), (⟨9, 8, 16, 16, 0⟩ : S34), (⟨10, 8, 7, 0, 255⟩ : S34), (⟨11, 16, 7, 0, 7⟩ : S34), (⟨10, 1, 1, 0, 1⟩ : S34), (⟨12, 8, 1, 7, 128⟩ : S34), (⟨12, 8, 1, 8, 0⟩ : S34), (⟨13, 16, 32768, 15, 1⟩ : S34), (⟨13, 16, 32768, 16, 0⟩ : S34), (⟨12, 1, 1, 1, 0⟩ : S34), (⟨14, 8, 257, 1, 1⟩ : S34), (⟨15, 8, 256, 1, 1⟩ : S34), (⟨15, 16, 32768, 1, 0⟩ : S34), (⟨6, 1, 1, 1, 0⟩ : S34), (⟨9, 1, 1, 1, 1⟩ : S34), (⟨12, 16, 1, 256, 0⟩ : S34)] : List (S34))) 0) = some r := by rw [if_pos rfl] at H; exact H
    clear H
    have H := H1
    clear H1
    obtain ⟨y155, hy155⟩ : ∃ y_ : List (S34), y_ = (([(⟨3, 8, 511, 0, 0⟩ : S34), (⟨7, 8, 200, 100, 44⟩ : S34), (⟨8, 16, 0, 1, 65535⟩ : S34), (⟨9, 8, 16, 16, 0⟩ : S34), (⟨10, 8, 7, 0, 255⟩ : S34), (⟨11, 16, 7, 0, 7⟩ : S34), (⟨10, 1, 1, 0, 1⟩ : S34), (⟨12, 8, 1, 7, 128⟩ : S34), (⟨12, 8, 1, 8, 0⟩ : S34), (⟨13, 16, 32768, 15, 1⟩ : S34), (⟨13, 16, 32768, 16, 0⟩ : S34), (⟨12, 1, 1, 1, 0⟩ : S34), (⟨14, 8, 257, 1, 1⟩ : S34), (⟨15, 8, 256, 1, 1⟩ : S34), (⟨15, 16, 32768, 1, 0⟩ : S34), (⟨6, 1, 1, 1, 0⟩ : S34), (⟨9, 1, 1, 1, 1⟩ : S34), (⟨12, 16, 1, 256, 0⟩ : S34)] : List (S34))) := ⟨_, rfl⟩
    replace H : (crossroadslaw1_WideKnown.l0 k y155 0) = some r := by first | (rw [hy155]; with_reducible exact H) | (have H2_ := (Option.bind_some _ _).symm.trans H; rw [hy155]; with_reducible exact H2_) | (have H2_ := (Option.bind_some _ _).symm.trans H; with_reducible exact H2_) | with_reducible exact H | (rw [hy155]; exact H) | exact H
    have Ny155 := Aside0.mk hy155
    clear hy155
    have H' := Aside0.mk H
    clear H
    go_enter Try.func4, Try.ntmps4
    go_wp2_with (first | (go_at_call 9; (with_reducible refine (crossroadslaw1_awake.calls  true _ A1.out).mono ?_); rintro e w' ⟨rfl, ⟨nd, rfl⟩⟩; (try first | exact ⟨rfl, _, World.drewN_drewN _ _ _⟩ | exact ⟨rfl, _, Eq.trans (World.drewN_drewN _ _ _) (congrArg (World.drewN _) (Nat.add_assoc _ _ _))⟩)) | ((with_reducible refine gate_dst (N := 31) rfl ?_); refine Kd.R_lit k34 _ 34 ?hg (N := 31) ?hd (xs := ([(⟨3, 8, 511, 0, 0⟩ : S34), (⟨7, 8, 200, 100, 44⟩ : S34), (⟨8, 16, 0, 1, 65535⟩ : S34), (⟨9, 8, 16, 16, 0⟩ : S34), (⟨10, 8, 7, 0, 255⟩ : S34), (⟨11, 16, 7, 0, 7⟩ : S34), (⟨10, 1, 1, 0, 1⟩ : S34), (⟨12, 8, 1, 7, 128⟩ : S34), (⟨12, 8, 1, 8, 0⟩ : S34), (⟨13, 16, 32768, 15, 1⟩ : S34), (⟨13, 16, 32768, 16, 0⟩ : S34), (⟨12, 1, 1, 1, 0⟩ : S34), (⟨14, 8, 257, 1, 1⟩ : S34), (⟨15, 8, 256, 1, 1⟩ : S34), (⟨15, 16, 32768, 1, 0⟩ : S34), (⟨6, 1, 1, 1, 0⟩ : S34), (⟨9, 1, 1, 1, 1⟩ : S34), (⟨12, 16, 1, 256, 0⟩ : S34)] : List (S34))) (inner := [.int .i64 3, .int .i64 8, .int .u16 511, .int .u16 0, .int .u16 0, .int .i64 7, .int .i64 8, .int .u16 200, .int .u16 100, .int .u16 44, .int .i64 8, .int .i64 16, .int .u16 0, .int .u16 1, .int .u16 65535, .int .i64 9, .int .i64 8, .int .u16 16, .int .u16 16, .int .u16 0, .int .i64 10, .int .i64 8, .int .u16 7, .int .u16 0, .int .u16 255, .int .i64 11, .int .i64 16, .int .u16 7, .int .u16 0, .int .u16 7, .int .i64 10, .int .i64 1, .int .u16 1, .int .u16 0, .int .u16 1, .int .i64 12, .int .i64 8, .int .u16 1, .int .u16 7, .int .u16 128, .int .i64 12, .int .i64 8, .int .u16 1, .int .u16 8, .int .u16 0, .int .i64 13, .int .i64 16, .int .u16 32768, .int .u16 15, .int .u16 1, .int .i64 13, .int .i64 16, .int .u16 32768, .int .u16 16, .int .u16 0, .int .i64 12, .int .i64 1, .int .u16 1, .int .u16 1, .int .u16 0, .int .i64 14, .int .i64 8, .int .u16 257, .int .u16 1, .int .u16 1, .int .i64 15, .int .i64 8, .int .u16 256, .int .u16 1, .int .u16 1, .int .i64 15, .int .i64 16, .int .u16 32768, .int .u16 1, .int .u16 0, .int .i64 6, .int .i64 1, .int .u16 1, .int .u16 1, .int .u16 0, .int .i64 9, .int .i64 1, .int .u16 1, .int .u16 1, .int .u16 1, .int .i64 12, .int .i64 16, .int .u16 1, .int .u16 256, .int .u16 0]) (ok := fun _ => True) (okp := fun _ => True) ?hr ?hp (fun _ hk => hk) trivial (Below.refl _ _) (Nat.le_refl _) (by simp) ?_; (case hd => rfl); (case hg => rfl); (case hr => first | (go_simp; done) | (go_simp; rfl)); (case hp => exact (Reps.c5 (show Kd.M k34 _ _ _ (⟨3, 8, 511, 0, 0⟩ : S34) [.int .i64 3, .int .i64 8, .int .u16 511, .int .u16 0, .int .u16 0] from (k34_mkM _ _ _ (⟨3, 8, 511, 0, 0⟩ : S34) )) (Reps.c5 (show Kd.M k34 _ _ _ (⟨7, 8, 200, 100, 44⟩ : S34) [.int .i64 7, .int .i64 8, .int .u16 200, .int .u16 100, .int .u16 44] from (k34_mkM _ _ _ (⟨7, 8, 200, 100, 44⟩ : S34) )) (Reps.c5 (show Kd.M k34 _ _ _ (⟨8, 16, 0, 1, 65535⟩ : S34) [.int .i64 8, .int .i64 16, .int .u16 0, .int .u16 1, .int .u16 65535] from (k34_mkM _ _ _ (⟨8, 16, 0, 1, 65535⟩ : S34) )) (Reps.c5 (show Kd.M k34 _ _ _ (⟨9, 8, 16, 16, 0⟩ : S34) [.int .i64 9, .int .i64 8, .int .u16 16, .int .u16 16, .int .u16 0] from (k34_mkM _ _ _ (⟨9, 8, 16, 16, 0⟩ : S34) )) (Reps.c5 (show Kd.M k34 _ _ _ (⟨10, 8, 7, 0, 255⟩ : S34) [.int .i64 10, .int .i64 8, .int .u16 7, .int .u16 0, .int .u16 255] from (k34_mkM _ _ _ (⟨10, 8, 7, 0, 255⟩ : S34) )) (Reps.c5 (show Kd.M k34 _ _ _ (⟨11, 16, 7, 0, 7⟩ : S34) [.int .i64 11, .int .i64 16, .int .u16 7, .int .u16 0, .int .u16 7] from (k34_mkM _ _ _ (⟨11, 16, 7, 0, 7⟩ : S34) )) (Reps.c5 (show Kd.M k34 _ _ _ (⟨10, 1, 1, 0, 1⟩ : S34) [.int .i64 10, .int .i64 1, .int .u16 1, .int .u16 0, .int .u16 1] from (k34_mkM _ _ _ (⟨10, 1, 1, 0, 1⟩ : S34) )) (Reps.c5 (show Kd.M k34 _ _ _ (⟨12, 8, 1, 7, 128⟩ : S34) [.int .i64 12, .int .i64 8, .int .u16 1, .int .u16 7, .int .u16 128] from (k34_mkM _ _ _ (⟨12, 8, 1, 7, 128⟩ : S34) )) (Reps.c5 (show Kd.M k34 _ _ _ (⟨12, 8, 1, 8, 0⟩ : S34) [.int .i64 12, .int .i64 8, .int .u16 1, .int .u16 8, .int .u16 0] from (k34_mkM _ _ _ (⟨12, 8, 1, 8, 0⟩ : S34) )) (Reps.c5 (show Kd.M k34 _ _ _ (⟨13, 16, 32768, 15, 1⟩ : S34) [.int .i64 13, .int .i64 16, .int .u16 32768, .int .u16 15, .int .u16 1] from (k34_mkM _ _ _ (⟨13, 16, 32768, 15, 1⟩ : S34) )) (Reps.c5 (show Kd.M k34 _ _ _ (⟨13, 16, 32768, 16, 0⟩ : S34) [.int .i64 13, .int .i64 16, .int .u16 32768, .int .u16 16, .int .u16 0] from (k34_mkM _ _ _ (⟨13, 16, 32768, 16, 0⟩ : S34) )) (Reps.c5 (show Kd.M k34 _ _ _ (⟨12, 1, 1, 1, 0⟩ : S34) [.int .i64 12, .int .i64 1, .int .u16 1, .int .u16 1, .int .u16 0] from (k34_mkM _ _ _ (⟨12, 1, 1, 1, 0⟩ : S34) )) (Reps.c5 (show Kd.M k34 _ _ _ (⟨14, 8, 257, 1, 1⟩ : S34) [.int .i64 14, .int .i64 8, .int .u16 257, .int .u16 1, .int .u16 1] from (k34_mkM _ _ _ (⟨14, 8, 257, 1, 1⟩ : S34) )) (Reps.c5 (show Kd.M k34 _ _ _ (⟨15, 8, 256, 1, 1⟩ : S34) [.int .i64 15, .int .i64 8, .int .u16 256, .int .u16 1, .int .u16 1] from (k34_mkM _ _ _ (⟨15, 8, 256, 1, 1⟩ : S34) )) (Reps.c5 (show Kd.M k34 _ _ _ (⟨15, 16, 32768, 1, 0⟩ : S34) [.int .i64 15, .int .i64 16, .int .u16 32768, .int .u16 1, .int .u16 0] from (k34_mkM _ _ _ (⟨15, 16, 32768, 1, 0⟩ : S34) )) (Reps.c5 (show Kd.M k34 _ _ _ (⟨6, 1, 1, 1, 0⟩ : S34) [.int .i64 6, .int .i64 1, .int .u16 1, .int .u16 1, .int .u16 0] from (k34_mkM _ _ _ (⟨6, 1, 1, 1, 0⟩ : S34) )) (Reps.c5 (show Kd.M k34 _ _ _ (⟨9, 1, 1, 1, 1⟩ : S34) [.int .i64 9, .int .i64 1, .int .u16 1, .int .u16 1, .int .u16 1] from (k34_mkM _ _ _ (⟨9, 1, 1, 1, 1⟩ : S34) )) (Reps.c5 (show Kd.M k34 _ _ _ (⟨12, 16, 1, 256, 0⟩ : S34) [.int .i64 12, .int .i64 16, .int .u16 1, .int .u16 256, .int .u16 0] from (k34_mkM _ _ _ (⟨12, 16, 1, 256, 0⟩ : S34) )) (Reps.none _ _)))))))))))))))))))); intro v156 w3 ho4 hb hg_ hnew_; clear hg_ hnew_; (first | rw [← Ny155.out] at ho4 | (simp only [Int.reduceToNat] at ho4; rw [← Ny155.out] at ho4)); have n0_ := Aside0.mk (Kd.R_lower ho4 (below_size (by repeat (first | (with_reducible first | exact HB.out | apply below_alloc | apply pw_below_drewN | apply below_drew1) | exact HB.out)))); have n1_ := Aside0.mk (below_step (by repeat (first | (with_reducible first | exact HB.out | apply below_alloc | apply pw_below_drewN | apply below_drew1) | exact HB.out)) hb); clear HB; have HO157 := n0_; have HB := n1_; clear n0_ n1_; clear hb ho4))
    repeat (go_quiet (first | (go_at_call 9; (with_reducible refine (crossroadslaw1_awake.calls  true _ A1.out).mono ?_); rintro e w' ⟨rfl, ⟨nd, rfl⟩⟩; (try first | exact ⟨rfl, _, World.drewN_drewN _ _ _⟩ | exact ⟨rfl, _, Eq.trans (World.drewN_drewN _ _ _) (congrArg (World.drewN _) (Nat.add_assoc _ _ _))⟩)) | ((with_reducible refine gate_dst (N := 31) rfl ?_); refine Kd.R_lit k34 _ 34 ?hg (N := 31) ?hd (xs := ([(⟨3, 8, 511, 0, 0⟩ : S34), (⟨7, 8, 200, 100, 44⟩ : S34), (⟨8, 16, 0, 1, 65535⟩ : S34), (⟨9, 8, 16, 16, 0⟩ : S34), (⟨10, 8, 7, 0, 255⟩ : S34), (⟨11, 16, 7, 0, 7⟩ : S34), (⟨10, 1, 1, 0, 1⟩ : S34), (⟨12, 8, 1, 7, 128⟩ : S34), (⟨12, 8, 1, 8, 0⟩ : S34), (⟨13, 16, 32768, 15, 1⟩ : S34), (⟨13, 16, 32768, 16, 0⟩ : S34), (⟨12, 1, 1, 1, 0⟩ : S34), (⟨14, 8, 257, 1, 1⟩ : S34), (⟨15, 8, 256, 1, 1⟩ : S34), (⟨15, 16, 32768, 1, 0⟩ : S34), (⟨6, 1, 1, 1, 0⟩ : S34), (⟨9, 1, 1, 1, 1⟩ : S34), (⟨12, 16, 1, 256, 0⟩ : S34)] : List (S34))) (inner := [.int .i64 3, .int .i64 8, .int .u16 511, .int .u16 0, .int .u16 0, .int .i64 7, .int .i64 8, .int .u16 200, .int .u16 100, .int .u16 44, .int .i64 8, .int .i64 16, .int .u16 0, .int .u16 1, .int .u16 65535, .int .i64 9, .int .i64 8, .int .u16 16, .int .u16 16, .int .u16 0, .int .i64 10, .int .i64 8, .int .u16 7, .int .u16 0, .int .u16 255, .int .i64 11, .int .i64 16, .int .u16 7, .int .u16 0, .int .u16 7, .int .i64 10, .int .i64 1, .int .u16 1, .int .u16 0, .int .u16 1, .int .i64 12, .int .i64 8, .int .u16 1, .int .u16 7, .int .u16 128, .int .i64 12, .int .i64 8, .int .u16 1, .int .u16 8, .int .u16 0, .int .i64 13, .int .i64 16, .int .u16 32768, .int .u16 15, .int .u16 1, .int .i64 13, .int .i64 16, .int .u16 32768, .int .u16 16, .int .u16 0, .int .i64 12, .int .i64 1, .int .u16 1, .int .u16 1, .int .u16 0, .int .i64 14, .int .i64 8, .int .u16 257, .int .u16 1, .int .u16 1, .int .i64 15, .int .i64 8, .int .u16 256, .int .u16 1, .int .u16 1, .int .i64 15, .int .i64 16, .int .u16 32768, .int .u16 1, .int .u16 0, .int .i64 6, .int .i64 1, .int .u16 1, .int .u16 1, .int .u16 0, .int .i64 9, .int .i64 1, .int .u16 1, .int .u16 1, .int .u16 1, .int .i64 12, .int .i64 16, .int .u16 1, .int .u16 256, .int .u16 0]) (ok := fun _ => True) (okp := fun _ => True) ?hr ?hp (fun _ hk => hk) trivial (Below.refl _ _) (Nat.le_refl _) (by simp) ?_; (case hd => rfl); (case hg => rfl); (case hr => first | (go_simp; done) | (go_simp; rfl)); (case hp => exact (Reps.c5 (show Kd.M k34 _ _ _ (⟨3, 8, 511, 0, 0⟩ : S34) [.int .i64 3, .int .i64 8, .int .u16 511, .int .u16 0, .int .u16 0] from (k34_mkM _ _ _ (⟨3, 8, 511, 0, 0⟩ : S34) )) (Reps.c5 (show Kd.M k34 _ _ _ (⟨7, 8, 200, 100, 44⟩ : S34) [.int .i64 7, .int .i64 8, .int .u16 200, .int .u16 100, .int .u16 44] from (k34_mkM _ _ _ (⟨7, 8, 200, 100, 44⟩ : S34) )) (Reps.c5 (show Kd.M k34 _ _ _ (⟨8, 16, 0, 1, 65535⟩ : S34) [.int .i64 8, .int .i64 16, .int .u16 0, .int .u16 1, .int .u16 65535] from (k34_mkM _ _ _ (⟨8, 16, 0, 1, 65535⟩ : S34) )) (Reps.c5 (show Kd.M k34 _ _ _ (⟨9, 8, 16, 16, 0⟩ : S34) [.int .i64 9, .int .i64 8, .int .u16 16, .int .u16 16, .int .u16 0] from (k34_mkM _ _ _ (⟨9, 8, 16, 16, 0⟩ : S34) )) (Reps.c5 (show Kd.M k34 _ _ _ (⟨10, 8, 7, 0, 255⟩ : S34) [.int .i64 10, .int .i64 8, .int .u16 7, .int .u16 0, .int .u16 255] from (k34_mkM _ _ _ (⟨10, 8, 7, 0, 255⟩ : S34) )) (Reps.c5 (show Kd.M k34 _ _ _ (⟨11, 16, 7, 0, 7⟩ : S34) [.int .i64 11, .int .i64 16, .int .u16 7, .int .u16 0, .int .u16 7] from (k34_mkM _ _ _ (⟨11, 16, 7, 0, 7⟩ : S34) )) (Reps.c5 (show Kd.M k34 _ _ _ (⟨10, 1, 1, 0, 1⟩ : S34) [.int .i64 10, .int .i64 1, .int .u16 1, .int .u16 0, .int .u16 1] from (k34_mkM _ _ _ (⟨10, 1, 1, 0, 1⟩ : S34) )) (Reps.c5 (show Kd.M k34 _ _ _ (⟨12, 8, 1, 7, 128⟩ : S34) [.int .i64 12, .int .i64 8, .int .u16 1, .int .u16 7, .int .u16 128] from (k34_mkM _ _ _ (⟨12, 8, 1, 7, 128⟩ : S34) )) (Reps.c5 (show Kd.M k34 _ _ _ (⟨12, 8, 1, 8, 0⟩ : S34) [.int .i64 12, .int .i64 8, .int .u16 1, .int .u16 8, .int .u16 0] from (k34_mkM _ _ _ (⟨12, 8, 1, 8, 0⟩ : S34) )) (Reps.c5 (show Kd.M k34 _ _ _ (⟨13, 16, 32768, 15, 1⟩ : S34) [.int .i64 13, .int .i64 16, .int .u16 32768, .int .u16 15, .int .u16 1] from (k34_mkM _ _ _ (⟨13, 16, 32768, 15, 1⟩ : S34) )) (Reps.c5 (show Kd.M k34 _ _ _ (⟨13, 16, 32768, 16, 0⟩ : S34) [.int .i64 13, .int .i64 16, .int .u16 32768, .int .u16 16, .int .u16 0] from (k34_mkM _ _ _ (⟨13, 16, 32768, 16, 0⟩ : S34) )) (Reps.c5 (show Kd.M k34 _ _ _ (⟨12, 1, 1, 1, 0⟩ : S34) [.int .i64 12, .int .i64 1, .int .u16 1, .int .u16 1, .int .u16 0] from (k34_mkM _ _ _ (⟨12, 1, 1, 1, 0⟩ : S34) )) (Reps.c5 (show Kd.M k34 _ _ _ (⟨14, 8, 257, 1, 1⟩ : S34) [.int .i64 14, .int .i64 8, .int .u16 257, .int .u16 1, .int .u16 1] from (k34_mkM _ _ _ (⟨14, 8, 257, 1, 1⟩ : S34) )) (Reps.c5 (show Kd.M k34 _ _ _ (⟨15, 8, 256, 1, 1⟩ : S34) [.int .i64 15, .int .i64 8, .int .u16 256, .int .u16 1, .int .u16 1] from (k34_mkM _ _ _ (⟨15, 8, 256, 1, 1⟩ : S34) )) (Reps.c5 (show Kd.M k34 _ _ _ (⟨15, 16, 32768, 1, 0⟩ : S34) [.int .i64 15, .int .i64 16, .int .u16 32768, .int .u16 1, .int .u16 0] from (k34_mkM _ _ _ (⟨15, 16, 32768, 1, 0⟩ : S34) )) (Reps.c5 (show Kd.M k34 _ _ _ (⟨6, 1, 1, 1, 0⟩ : S34) [.int .i64 6, .int .i64 1, .int .u16 1, .int .u16 1, .int .u16 0] from (k34_mkM _ _ _ (⟨6, 1, 1, 1, 0⟩ : S34) )) (Reps.c5 (show Kd.M k34 _ _ _ (⟨9, 1, 1, 1, 1⟩ : S34) [.int .i64 9, .int .i64 1, .int .u16 1, .int .u16 1, .int .u16 1] from (k34_mkM _ _ _ (⟨9, 1, 1, 1, 1⟩ : S34) )) (Reps.c5 (show Kd.M k34 _ _ _ (⟨12, 16, 1, 256, 0⟩ : S34) [.int .i64 12, .int .i64 16, .int .u16 1, .int .u16 256, .int .u16 0] from (k34_mkM _ _ _ (⟨12, 16, 1, 256, 0⟩ : S34) )) (Reps.none _ _)))))))))))))))))))); intro v156 w3 ho4 hb hg_ hnew_; clear hg_ hnew_; (first | rw [← Ny155.out] at ho4 | (simp only [Int.reduceToNat] at ho4; rw [← Ny155.out] at ho4)); have n0_ := Aside0.mk (Kd.R_lower ho4 (below_size (by repeat (first | (with_reducible first | exact HB.out | apply below_alloc | apply pw_below_drewN | apply below_drew1) | exact HB.out)))); have n1_ := Aside0.mk (below_step (by repeat (first | (with_reducible first | exact HB.out | apply below_alloc | apply pw_below_drewN | apply below_drew1) | exact HB.out)) hb); clear HB; have HO157 := n0_; have HB := n1_; clear n0_ n1_; clear hb ho4)); try go_wp2_with (first | (go_at_call 9; (with_reducible refine (crossroadslaw1_awake.calls  true _ A1.out).mono ?_); rintro e w' ⟨rfl, ⟨nd, rfl⟩⟩; (try first | exact ⟨rfl, _, World.drewN_drewN _ _ _⟩ | exact ⟨rfl, _, Eq.trans (World.drewN_drewN _ _ _) (congrArg (World.drewN _) (Nat.add_assoc _ _ _))⟩)) | ((with_reducible refine gate_dst (N := 31) rfl ?_); refine Kd.R_lit k34 _ 34 ?hg (N := 31) ?hd (xs := ([(⟨3, 8, 511, 0, 0⟩ : S34), (⟨7, 8, 200, 100, 44⟩ : S34), (⟨8, 16, 0, 1, 65535⟩ : S34), (⟨9, 8, 16, 16, 0⟩ : S34), (⟨10, 8, 7, 0, 255⟩ : S34), (⟨11, 16, 7, 0, 7⟩ : S34), (⟨10, 1, 1, 0, 1⟩ : S34), (⟨12, 8, 1, 7, 128⟩ : S34), (⟨12, 8, 1, 8, 0⟩ : S34), (⟨13, 16, 32768, 15, 1⟩ : S34), (⟨13, 16, 32768, 16, 0⟩ : S34), (⟨12, 1, 1, 1, 0⟩ : S34), (⟨14, 8, 257, 1, 1⟩ : S34), (⟨15, 8, 256, 1, 1⟩ : S34), (⟨15, 16, 32768, 1, 0⟩ : S34), (⟨6, 1, 1, 1, 0⟩ : S34), (⟨9, 1, 1, 1, 1⟩ : S34), (⟨12, 16, 1, 256, 0⟩ : S34)] : List (S34))) (inner := [.int .i64 3, .int .i64 8, .int .u16 511, .int .u16 0, .int .u16 0, .int .i64 7, .int .i64 8, .int .u16 200, .int .u16 100, .int .u16 44, .int .i64 8, .int .i64 16, .int .u16 0, .int .u16 1, .int .u16 65535, .int .i64 9, .int .i64 8, .int .u16 16, .int .u16 16, .int .u16 0, .int .i64 10, .int .i64 8, .int .u16 7, .int .u16 0, .int .u16 255, .int .i64 11, .int .i64 16, .int .u16 7, .int .u16 0, .int .u16 7, .int .i64 10, .int .i64 1, .int .u16 1, .int .u16 0, .int .u16 1, .int .i64 12, .int .i64 8, .int .u16 1, .int .u16 7, .int .u16 128, .int .i64 12, .int .i64 8, .int .u16 1, .int .u16 8, .int .u16 0, .int .i64 13, .int .i64 16, .int .u16 32768, .int .u16 15, .int .u16 1, .int .i64 13, .int .i64 16, .int .u16 32768, .int .u16 16, .int .u16 0, .int .i64 12, .int .i64 1, .int .u16 1, .int .u16 1, .int .u16 0, .int .i64 14, .int .i64 8, .int .u16 257, .int .u16 1, .int .u16 1, .int .i64 15, .int .i64 8, .int .u16 256, .int .u16 1, .int .u16 1, .int .i64 15, .int .i64 16, .int .u16 32768, .int .u16 1, .int .u16 0, .int .i64 6, .int .i64 1, .int .u16 1, .int .u16 1, .int .u16 0, .int .i64 9, .int .i64 1, .int .u16 1, .int .u16 1, .int .u16 1, .int .i64 12, .int .i64 16, .int .u16 1, .int .u16 256, .int .u16 0]) (ok := fun _ => True) (okp := fun _ => True) ?hr ?hp (fun _ hk => hk) trivial (Below.refl _ _) (Nat.le_refl _) (by simp) ?_; (case hd => rfl); (case hg => rfl); (case hr => first | (go_simp; done) | (go_simp; rfl)); (case hp => exact (Reps.c5 (show Kd.M k34 _ _ _ (⟨3, 8, 511, 0, 0⟩ : S34) [.int .i64 3, .int .i64 8, .int .u16 511, .int .u16 0, .int .u16 0] from (k34_mkM _ _ _ (⟨3, 8, 511, 0, 0⟩ : S34) )) (Reps.c5 (show Kd.M k34 _ _ _ (⟨7, 8, 200, 100, 44⟩ : S34) [.int .i64 7, .int .i64 8, .int .u16 200, .int .u16 100, .int .u16 44] from (k34_mkM _ _ _ (⟨7, 8, 200, 100, 44⟩ : S34) )) (Reps.c5 (show Kd.M k34 _ _ _ (⟨8, 16, 0, 1, 65535⟩ : S34) [.int .i64 8, .int .i64 16, .int .u16 0, .int .u16 1, .int .u16 65535] from (k34_mkM _ _ _ (⟨8, 16, 0, 1, 65535⟩ : S34) )) (Reps.c5 (show Kd.M k34 _ _ _ (⟨9, 8, 16, 16, 0⟩ : S34) [.int .i64 9, .int .i64 8, .int .u16 16, .int .u16 16, .int .u16 0] from (k34_mkM _ _ _ (⟨9, 8, 16, 16, 0⟩ : S34) )) (Reps.c5 (show Kd.M k34 _ _ _ (⟨10, 8, 7, 0, 255⟩ : S34) [.int .i64 10, .int .i64 8, .int .u16 7, .int .u16 0, .int .u16 255] from (k34_mkM _ _ _ (⟨10, 8, 7, 0, 255⟩ : S34) )) (Reps.c5 (show Kd.M k34 _ _ _ (⟨11, 16, 7, 0, 7⟩ : S34) [.int .i64 11, .int .i64 16, .int .u16 7, .int .u16 0, .int .u16 7] from (k34_mkM _ _ _ (⟨11, 16, 7, 0, 7⟩ : S34) )) (Reps.c5 (show Kd.M k34 _ _ _ (⟨10, 1, 1, 0, 1⟩ : S34) [.int .i64 10, .int .i64 1, .int .u16 1, .int .u16 0, .int .u16 1] from (k34_mkM _ _ _ (⟨10, 1, 1, 0, 1⟩ : S34) )) (Reps.c5 (show Kd.M k34 _ _ _ (⟨12, 8, 1, 7, 128⟩ : S34) [.int .i64 12, .int .i64 8, .int .u16 1, .int .u16 7, .int .u16 128] from (k34_mkM _ _ _ (⟨12, 8, 1, 7, 128⟩ : S34) )) (Reps.c5 (show Kd.M k34 _ _ _ (⟨12, 8, 1, 8, 0⟩ : S34) [.int .i64 12, .int .i64 8, .int .u16 1, .int .u16 8, .int .u16 0] from (k34_mkM _ _ _ (⟨12, 8, 1, 8, 0⟩ : S34) )) (Reps.c5 (show Kd.M k34 _ _ _ (⟨13, 16, 32768, 15, 1⟩ : S34) [.int .i64 13, .int .i64 16, .int .u16 32768, .int .u16 15, .int .u16 1] from (k34_mkM _ _ _ (⟨13, 16, 32768, 15, 1⟩ : S34) )) (Reps.c5 (show Kd.M k34 _ _ _ (⟨13, 16, 32768, 16, 0⟩ : S34) [.int .i64 13, .int .i64 16, .int .u16 32768, .int .u16 16, .int .u16 0] from (k34_mkM _ _ _ (⟨13, 16, 32768, 16, 0⟩ : S34) )) (Reps.c5 (show Kd.M k34 _ _ _ (⟨12, 1, 1, 1, 0⟩ : S34) [.int .i64 12, .int .i64 1, .int .u16 1, .int .u16 1, .int .u16 0] from (k34_mkM _ _ _ (⟨12, 1, 1, 1, 0⟩ : S34) )) (Reps.c5 (show Kd.M k34 _ _ _ (⟨14, 8, 257, 1, 1⟩ : S34) [.int .i64 14, .int .i64 8, .int .u16 257, .int .u16 1, .int .u16 1] from (k34_mkM _ _ _ (⟨14, 8, 257, 1, 1⟩ : S34) )) (Reps.c5 (show Kd.M k34 _ _ _ (⟨15, 8, 256, 1, 1⟩ : S34) [.int .i64 15, .int .i64 8, .int .u16 256, .int .u16 1, .int .u16 1] from (k34_mkM _ _ _ (⟨15, 8, 256, 1, 1⟩ : S34) )) (Reps.c5 (show Kd.M k34 _ _ _ (⟨15, 16, 32768, 1, 0⟩ : S34) [.int .i64 15, .int .i64 16, .int .u16 32768, .int .u16 1, .int .u16 0] from (k34_mkM _ _ _ (⟨15, 16, 32768, 1, 0⟩ : S34) )) (Reps.c5 (show Kd.M k34 _ _ _ (⟨6, 1, 1, 1, 0⟩ : S34) [.int .i64 6, .int .i64 1, .int .u16 1, .int .u16 1, .int .u16 0] from (k34_mkM _ _ _ (⟨6, 1, 1, 1, 0⟩ : S34) )) (Reps.c5 (show Kd.M k34 _ _ _ (⟨9, 1, 1, 1, 1⟩ : S34) [.int .i64 9, .int .i64 1, .int .u16 1, .int .u16 1, .int .u16 1] from (k34_mkM _ _ _ (⟨9, 1, 1, 1, 1⟩ : S34) )) (Reps.c5 (show Kd.M k34 _ _ _ (⟨12, 16, 1, 256, 0⟩ : S34) [.int .i64 12, .int .i64 16, .int .u16 1, .int .u16 256, .int .u16 0] from (k34_mkM _ _ _ (⟨12, 16, 1, 256, 0⟩ : S34) )) (Reps.none _ _)))))))))))))))))))); intro v156 w3 ho4 hb hg_ hnew_; clear hg_ hnew_; (first | rw [← Ny155.out] at ho4 | (simp only [Int.reduceToNat] at ho4; rw [← Ny155.out] at ho4)); have n0_ := Aside0.mk (Kd.R_lower ho4 (below_size (by repeat (first | (with_reducible first | exact HB.out | apply below_alloc | apply pw_below_drewN | apply below_drew1) | exact HB.out)))); have n1_ := Aside0.mk (below_step (by repeat (first | (with_reducible first | exact HB.out | apply below_alloc | apply pw_below_drewN | apply below_drew1) | exact HB.out)) hb); clear HB; have HO157 := n0_; have HB := n1_; clear n0_ n1_; clear hb ho4)))
    go_loopg [2] k (fun kq v2 w' => ∃ (x2_1 : Int), v2 = .int .i64 x2_1 ∧ Aside0 (crossroadslaw1_WideKnown.l0 kq y155 x2_1 = some r) ∧ Aside0 (kq ≤ k) ∧ Aside0 (Kd.R k34 34 w' w.heap.size (fun _ => True) v156 y155) ∧ Aside0 (Below w.heap.size w w'))
    case atStart => exact ⟨(0), (by first | rfl | (simp; done) | (simp [*]; done)), H', ⟨Nat.le_refl _⟩, ⟨by (with_reducible repeat (first | apply Kd.R_alloc | apply Kd.R_drewN | apply Kd.R_drew)); exact HO157.out⟩, ⟨by repeat (first | (with_reducible first | exact HB.out | apply below_alloc | apply pw_below_drewN | apply below_drew1) | exact HB.out)⟩⟩
    case round =>
      clear H'
      try clear c2
      try clear p2
      try clear c4
      obtain ⟨x2_1, rfl, HA, HK1, HO_1, HB⟩ := hrel
      cases gk with
      | zero => exact absurd HA.out (by simp [crossroadslaw1_WideKnown.l0])
      | succ k1 =>
        have H := HA.out
        clear HA
        simp only [crossroadslaw1_WideKnown.l0] at H
        by_cases c5 : x2_1 < (y155.length : Int)
        · rw [if_pos c5] at H
          have c5b0 : decide (x2_1 < (y155.length : Int)) = true := decide_eq_true c5
          clear c5
          by_cases c6 : 0 ≤ x2_1
          · rw [if_pos c6] at H
            have c6b0 : decide (0 ≤ x2_1) = true := decide_eq_true c6
            clear c6
            replace H := Option.bind_eq_some_iff.mp H
            obtain ⟨⟨t162, t163⟩, A70, H⟩ := H
            replace H : (if t163 = 0 then (if t162 = ((rd_T34 y155 x2_1).f4) then (crossroadslaw1_WideKnown.l0 k1 y155 (wrap64 (x2_1 + 1))) else (some false)) else (some false)) = some r := H
            have A7 := Aside0.mk A70
            clear A70
            by_cases c8 : t163 = 0
            · rw [if_pos c8] at H
              have c8b0 : (t163 == 0) = true := beq_iff_eq.mpr c8
              have c8b1 : (t163 != 0) = false := bne_eq_false_iff_eq.mpr c8
              clear c8
              by_cases c9 : t162 = ((rd_T34 y155 x2_1).f4)
              · rw [if_pos c9] at H
                have c9b0 : (t162 == ((rd_T34 y155 x2_1).f4)) = true := beq_iff_eq.mpr c9
                have c9b1 : (t162 != ((rd_T34 y155 x2_1).f4)) = false := bne_eq_false_iff_eq.mpr c9
                clear c9
                have H' := Aside0.mk H
                clear H
                obtain ⟨Ao10, co10, eo10⟩ := Kd.R_slice HO_1.out
                subst eo10
                have p158 : 0 ≤ (x2_1 : Int) := of_decide_eq_true (by first | (with_reducible assumption) | assumption)
                have q158 : x2_1 < (y155.length : Int) := of_decide_eq_true (by first | (with_reducible assumption) | assumption)
                obtain ⟨ad158, e158, hx158_0, hx158_1, hx158_2, hx158_3, hx158_4⟩ := at_T34 (Kd.R_reads' HO_1.out).2.2 x2_1 p158 q158
                cases e158
                replace p158 := eq_true p158
                replace q158 := eq_true q158
                have p159 : 0 ≤ (x2_1 : Int) := of_decide_eq_true (by first | (with_reducible assumption) | assumption)
                have q159 : x2_1 < (y155.length : Int) := of_decide_eq_true (by first | (with_reducible assumption) | assumption)
                obtain ⟨ad159, e159, hx159_0, hx159_1, hx159_2, hx159_3, hx159_4⟩ := at_T34 (Kd.R_reads' HO_1.out).2.2 x2_1 p159 q159
                obtain rfl : ad158 = ad159 := (by injection e159)
                replace p159 := eq_true p159
                replace q159 := eq_true q159
                have p160 : 0 ≤ (x2_1 : Int) := of_decide_eq_true (by first | (with_reducible assumption) | assumption)
                have q160 : x2_1 < (y155.length : Int) := of_decide_eq_true (by first | (with_reducible assumption) | assumption)
                obtain ⟨ad160, e160, hx160_0, hx160_1, hx160_2, hx160_3, hx160_4⟩ := at_T34 (Kd.R_reads' HO_1.out).2.2 x2_1 p160 q160
                obtain rfl : ad158 = ad160 := (by injection e160)
                replace p160 := eq_true p160
                replace q160 := eq_true q160
                have p161 : 0 ≤ (x2_1 : Int) := of_decide_eq_true (by first | (with_reducible assumption) | assumption)
                have q161 : x2_1 < (y155.length : Int) := of_decide_eq_true (by first | (with_reducible assumption) | assumption)
                obtain ⟨ad161, e161, hx161_0, hx161_1, hx161_2, hx161_3, hx161_4⟩ := at_T34 (Kd.R_reads' HO_1.out).2.2 x2_1 p161 q161
                obtain rfl : ad158 = ad161 := (by injection e161)
                replace p161 := eq_true p161
                replace q161 := eq_true q161
                go_wp2_with (first | (go_at_call 10; (with_reducible refine (wide_Do.calls ((rd_T34 y155 x2_1).f0) ((rd_T34 y155 x2_1).f1) ((rd_T34 y155 x2_1).f2) ((rd_T34 y155 x2_1).f3) t162 t163 _ A7.out).mono ?_); rintro e w' ⟨rfl, ⟨nd, rfl⟩⟩; (try first | exact ⟨rfl, _, World.drewN_drewN _ _ _⟩ | exact ⟨rfl, _, Eq.trans (World.drewN_drewN _ _ _) (congrArg (World.drewN _) (Nat.add_assoc _ _ _))⟩); have p164 : 0 ≤ (x2_1 : Int) := of_decide_eq_true (by first | (with_reducible assumption) | assumption); have q164 : x2_1 < (y155.length : Int) := of_decide_eq_true (by first | (with_reducible assumption) | assumption); obtain ⟨ad164, e164, hx164_0, hx164_1, hx164_2, hx164_3, hx164_4⟩ := at_T34 (Kd.R_reads' HO_1.out).2.2 x2_1 p164 q164; obtain rfl : ad158 = ad164 := (by injection e164); replace p164 := eq_true p164; replace q164 := eq_true q164))
                repeat (go_quiet (first | (go_at_call 10; (with_reducible refine (wide_Do.calls ((rd_T34 y155 x2_1).f0) ((rd_T34 y155 x2_1).f1) ((rd_T34 y155 x2_1).f2) ((rd_T34 y155 x2_1).f3) t162 t163 _ A7.out).mono ?_); rintro e w' ⟨rfl, ⟨nd, rfl⟩⟩; (try first | exact ⟨rfl, _, World.drewN_drewN _ _ _⟩ | exact ⟨rfl, _, Eq.trans (World.drewN_drewN _ _ _) (congrArg (World.drewN _) (Nat.add_assoc _ _ _))⟩); have p164 : 0 ≤ (x2_1 : Int) := of_decide_eq_true (by first | (with_reducible assumption) | assumption); have q164 : x2_1 < (y155.length : Int) := of_decide_eq_true (by first | (with_reducible assumption) | assumption); obtain ⟨ad164, e164, hx164_0, hx164_1, hx164_2, hx164_3, hx164_4⟩ := at_T34 (Kd.R_reads' HO_1.out).2.2 x2_1 p164 q164; obtain rfl : ad158 = ad164 := (by injection e164); replace p164 := eq_true p164; replace q164 := eq_true q164)); try go_wp2_with (first | (go_at_call 10; (with_reducible refine (wide_Do.calls ((rd_T34 y155 x2_1).f0) ((rd_T34 y155 x2_1).f1) ((rd_T34 y155 x2_1).f2) ((rd_T34 y155 x2_1).f3) t162 t163 _ A7.out).mono ?_); rintro e w' ⟨rfl, ⟨nd, rfl⟩⟩; (try first | exact ⟨rfl, _, World.drewN_drewN _ _ _⟩ | exact ⟨rfl, _, Eq.trans (World.drewN_drewN _ _ _) (congrArg (World.drewN _) (Nat.add_assoc _ _ _))⟩); have p164 : 0 ≤ (x2_1 : Int) := of_decide_eq_true (by first | (with_reducible assumption) | assumption); have q164 : x2_1 < (y155.length : Int) := of_decide_eq_true (by first | (with_reducible assumption) | assumption); obtain ⟨ad164, e164, hx164_0, hx164_1, hx164_2, hx164_3, hx164_4⟩ := at_T34 (Kd.R_reads' HO_1.out).2.2 x2_1 p164 q164; obtain rfl : ad158 = ad164 := (by injection e164); replace p164 := eq_true p164; replace q164 := eq_true q164)))
                go_roundg k1
                case measure => have := HK1.out; omega
                case rel => exact ⟨(wrap64 (x2_1 + 1)), (by first | rfl | (simp; done) | (simp [*]; done)), H', ⟨by have := HK1.out; omega⟩, ⟨by (with_reducible repeat (first | apply Kd.R_alloc | apply Kd.R_drewN | apply Kd.R_drew)); exact HO_1.out⟩, ⟨by repeat (first | (with_reducible first | exact HB.out | apply below_alloc | apply pw_below_drewN | apply below_drew1) | exact HB.out)⟩⟩
              · rw [if_neg c9] at H
                have c9b0 : (t162 == ((rd_T34 y155 x2_1).f4)) = false := beq_eq_false_iff_ne.mpr c9
                have c9b1 : (t162 != ((rd_T34 y155 x2_1).f4)) = true := bne_iff_ne.mpr c9
                obtain rfl := Option.some.inj H
                obtain ⟨Ao11, co11, eo11⟩ := Kd.R_slice HO_1.out
                subst eo11
                have p158 : 0 ≤ (x2_1 : Int) := of_decide_eq_true (by first | (with_reducible assumption) | assumption)
                have q158 : x2_1 < (y155.length : Int) := of_decide_eq_true (by first | (with_reducible assumption) | assumption)
                obtain ⟨ad158, e158, hx158_0, hx158_1, hx158_2, hx158_3, hx158_4⟩ := at_T34 (Kd.R_reads' HO_1.out).2.2 x2_1 p158 q158
                cases e158
                replace p158 := eq_true p158
                replace q158 := eq_true q158
                have p159 : 0 ≤ (x2_1 : Int) := of_decide_eq_true (by first | (with_reducible assumption) | assumption)
                have q159 : x2_1 < (y155.length : Int) := of_decide_eq_true (by first | (with_reducible assumption) | assumption)
                obtain ⟨ad159, e159, hx159_0, hx159_1, hx159_2, hx159_3, hx159_4⟩ := at_T34 (Kd.R_reads' HO_1.out).2.2 x2_1 p159 q159
                obtain rfl : ad158 = ad159 := (by injection e159)
                replace p159 := eq_true p159
                replace q159 := eq_true q159
                have p160 : 0 ≤ (x2_1 : Int) := of_decide_eq_true (by first | (with_reducible assumption) | assumption)
                have q160 : x2_1 < (y155.length : Int) := of_decide_eq_true (by first | (with_reducible assumption) | assumption)
                obtain ⟨ad160, e160, hx160_0, hx160_1, hx160_2, hx160_3, hx160_4⟩ := at_T34 (Kd.R_reads' HO_1.out).2.2 x2_1 p160 q160
                obtain rfl : ad158 = ad160 := (by injection e160)
                replace p160 := eq_true p160
                replace q160 := eq_true q160
                have p161 : 0 ≤ (x2_1 : Int) := of_decide_eq_true (by first | (with_reducible assumption) | assumption)
                have q161 : x2_1 < (y155.length : Int) := of_decide_eq_true (by first | (with_reducible assumption) | assumption)
                obtain ⟨ad161, e161, hx161_0, hx161_1, hx161_2, hx161_3, hx161_4⟩ := at_T34 (Kd.R_reads' HO_1.out).2.2 x2_1 p161 q161
                obtain rfl : ad158 = ad161 := (by injection e161)
                replace p161 := eq_true p161
                replace q161 := eq_true q161
                go_wp2_with (first | (go_at_call 10; (with_reducible refine (wide_Do.calls ((rd_T34 y155 x2_1).f0) ((rd_T34 y155 x2_1).f1) ((rd_T34 y155 x2_1).f2) ((rd_T34 y155 x2_1).f3) t162 t163 _ A7.out).mono ?_); rintro e w' ⟨rfl, ⟨nd, rfl⟩⟩; (try first | exact ⟨rfl, _, World.drewN_drewN _ _ _⟩ | exact ⟨rfl, _, Eq.trans (World.drewN_drewN _ _ _) (congrArg (World.drewN _) (Nat.add_assoc _ _ _))⟩); have p164 : 0 ≤ (x2_1 : Int) := of_decide_eq_true (by first | (with_reducible assumption) | assumption); have q164 : x2_1 < (y155.length : Int) := of_decide_eq_true (by first | (with_reducible assumption) | assumption); obtain ⟨ad164, e164, hx164_0, hx164_1, hx164_2, hx164_3, hx164_4⟩ := at_T34 (Kd.R_reads' HO_1.out).2.2 x2_1 p164 q164; obtain rfl : ad158 = ad164 := (by injection e164); replace p164 := eq_true p164; replace q164 := eq_true q164))
                repeat (go_quiet (first | (go_at_call 10; (with_reducible refine (wide_Do.calls ((rd_T34 y155 x2_1).f0) ((rd_T34 y155 x2_1).f1) ((rd_T34 y155 x2_1).f2) ((rd_T34 y155 x2_1).f3) t162 t163 _ A7.out).mono ?_); rintro e w' ⟨rfl, ⟨nd, rfl⟩⟩; (try first | exact ⟨rfl, _, World.drewN_drewN _ _ _⟩ | exact ⟨rfl, _, Eq.trans (World.drewN_drewN _ _ _) (congrArg (World.drewN _) (Nat.add_assoc _ _ _))⟩); have p164 : 0 ≤ (x2_1 : Int) := of_decide_eq_true (by first | (with_reducible assumption) | assumption); have q164 : x2_1 < (y155.length : Int) := of_decide_eq_true (by first | (with_reducible assumption) | assumption); obtain ⟨ad164, e164, hx164_0, hx164_1, hx164_2, hx164_3, hx164_4⟩ := at_T34 (Kd.R_reads' HO_1.out).2.2 x2_1 p164 q164; obtain rfl : ad158 = ad164 := (by injection e164); replace p164 := eq_true p164; replace q164 := eq_true q164)); try go_wp2_with (first | (go_at_call 10; (with_reducible refine (wide_Do.calls ((rd_T34 y155 x2_1).f0) ((rd_T34 y155 x2_1).f1) ((rd_T34 y155 x2_1).f2) ((rd_T34 y155 x2_1).f3) t162 t163 _ A7.out).mono ?_); rintro e w' ⟨rfl, ⟨nd, rfl⟩⟩; (try first | exact ⟨rfl, _, World.drewN_drewN _ _ _⟩ | exact ⟨rfl, _, Eq.trans (World.drewN_drewN _ _ _) (congrArg (World.drewN _) (Nat.add_assoc _ _ _))⟩); have p164 : 0 ≤ (x2_1 : Int) := of_decide_eq_true (by first | (with_reducible assumption) | assumption); have q164 : x2_1 < (y155.length : Int) := of_decide_eq_true (by first | (with_reducible assumption) | assumption); obtain ⟨ad164, e164, hx164_0, hx164_1, hx164_2, hx164_3, hx164_4⟩ := at_T34 (Kd.R_reads' HO_1.out).2.2 x2_1 p164 q164; obtain rfl : ad158 = ad164 := (by injection e164); replace p164 := eq_true p164; replace q164 := eq_true q164)))
                go_ret
                exact ⟨by first | rfl | (simp [errW_none, errW_some] <;> rfl) | (simp [*, errW_none, errW_some] <;> rfl), by repeat (first | (with_reducible first | exact HB.out | apply below_alloc | apply pw_below_drewN | apply below_drew1) | exact HB.out)⟩
            · rw [if_neg c8] at H
              have c8b0 : (t163 == 0) = false := beq_eq_false_iff_ne.mpr c8
              have c8b1 : (t163 != 0) = true := bne_iff_ne.mpr c8
              obtain rfl := Option.some.inj H
              obtain ⟨Ao12, co12, eo12⟩ := Kd.R_slice HO_1.out
              subst eo12
              have p158 : 0 ≤ (x2_1 : Int) := of_decide_eq_true (by first | (with_reducible assumption) | assumption)
              have q158 : x2_1 < (y155.length : Int) := of_decide_eq_true (by first | (with_reducible assumption) | assumption)
              obtain ⟨ad158, e158, hx158_0, hx158_1, hx158_2, hx158_3, hx158_4⟩ := at_T34 (Kd.R_reads' HO_1.out).2.2 x2_1 p158 q158
              cases e158
              replace p158 := eq_true p158
              replace q158 := eq_true q158
              have p159 : 0 ≤ (x2_1 : Int) := of_decide_eq_true (by first | (with_reducible assumption) | assumption)
              have q159 : x2_1 < (y155.length : Int) := of_decide_eq_true (by first | (with_reducible assumption) | assumption)
              obtain ⟨ad159, e159, hx159_0, hx159_1, hx159_2, hx159_3, hx159_4⟩ := at_T34 (Kd.R_reads' HO_1.out).2.2 x2_1 p159 q159
              obtain rfl : ad158 = ad159 := (by injection e159)
              replace p159 := eq_true p159
              replace q159 := eq_true q159
              have p160 : 0 ≤ (x2_1 : Int) := of_decide_eq_true (by first | (with_reducible assumption) | assumption)
              have q160 : x2_1 < (y155.length : Int) := of_decide_eq_true (by first | (with_reducible assumption) | assumption)
              obtain ⟨ad160, e160, hx160_0, hx160_1, hx160_2, hx160_3, hx160_4⟩ := at_T34 (Kd.R_reads' HO_1.out).2.2 x2_1 p160 q160
              obtain rfl : ad158 = ad160 := (by injection e160)
              replace p160 := eq_true p160
              replace q160 := eq_true q160
              have p161 : 0 ≤ (x2_1 : Int) := of_decide_eq_true (by first | (with_reducible assumption) | assumption)
              have q161 : x2_1 < (y155.length : Int) := of_decide_eq_true (by first | (with_reducible assumption) | assumption)
              obtain ⟨ad161, e161, hx161_0, hx161_1, hx161_2, hx161_3, hx161_4⟩ := at_T34 (Kd.R_reads' HO_1.out).2.2 x2_1 p161 q161
              obtain rfl : ad158 = ad161 := (by injection e161)
              replace p161 := eq_true p161
              replace q161 := eq_true q161
              go_wp2_with (first | (go_at_call 10; (with_reducible refine (wide_Do.calls ((rd_T34 y155 x2_1).f0) ((rd_T34 y155 x2_1).f1) ((rd_T34 y155 x2_1).f2) ((rd_T34 y155 x2_1).f3) t162 t163 _ A7.out).mono ?_); rintro e w' ⟨rfl, ⟨nd, rfl⟩⟩; (try first | exact ⟨rfl, _, World.drewN_drewN _ _ _⟩ | exact ⟨rfl, _, Eq.trans (World.drewN_drewN _ _ _) (congrArg (World.drewN _) (Nat.add_assoc _ _ _))⟩)))
              repeat (go_quiet (first | (go_at_call 10; (with_reducible refine (wide_Do.calls ((rd_T34 y155 x2_1).f0) ((rd_T34 y155 x2_1).f1) ((rd_T34 y155 x2_1).f2) ((rd_T34 y155 x2_1).f3) t162 t163 _ A7.out).mono ?_); rintro e w' ⟨rfl, ⟨nd, rfl⟩⟩; (try first | exact ⟨rfl, _, World.drewN_drewN _ _ _⟩ | exact ⟨rfl, _, Eq.trans (World.drewN_drewN _ _ _) (congrArg (World.drewN _) (Nat.add_assoc _ _ _))⟩))); try go_wp2_with (first | (go_at_call 10; (with_reducible refine (wide_Do.calls ((rd_T34 y155 x2_1).f0) ((rd_T34 y155 x2_1).f1) ((rd_T34 y155 x2_1).f2) ((rd_T34 y155 x2_1).f3) t162 t163 _ A7.out).mono ?_); rintro e w' ⟨rfl, ⟨nd, rfl⟩⟩; (try first | exact ⟨rfl, _, World.drewN_drewN _ _ _⟩ | exact ⟨rfl, _, Eq.trans (World.drewN_drewN _ _ _) (congrArg (World.drewN _) (Nat.add_assoc _ _ _))⟩))))
              go_ret
              exact ⟨by first | rfl | (simp [errW_none, errW_some] <;> rfl) | (simp [*, errW_none, errW_some] <;> rfl), by repeat (first | (with_reducible first | exact HB.out | apply below_alloc | apply pw_below_drewN | apply below_drew1) | exact HB.out)⟩
          · rw [if_neg c6] at H
            exact absurd H (by simp)
        · rw [if_neg c5] at H
          have c5b0 : decide (x2_1 < (y155.length : Int)) = false := decide_eq_false c5
          clear c5
          replace H := Option.bind_eq_some_iff.mp H
          obtain ⟨⟨t165, t166⟩, A130, H⟩ := H
          replace H : ((wide_Do.f 16 8 1 1).bind fun bt167 => ((wide_Do.f 0 9 1 1).bind fun bt169 => (if t166 = 2 then (if bt167.2 = 5 then (if bt169.2 = 2 then ((wide_Signed.f 1 1).bind fun t171 => (if t171 = (-1) then ((wide_Signed.f 16 32768).bind fun t172 => (if t172 = (-32768) then ((wide_Of.f 1 6).bind fun t173 => (if t173 = 0 then ((wide_Of.f 16 (-2)).bind fun t174 => (if t174 = 65534 then ((wide_Mask.f 7).bind fun t175 => (if t175 = 0 then ((wide_Out.f 2 8).bind fun t176 => (some (t176 == 0))) else (some false))) else (some false))) else (some false))) else (some false))) else (some false))) else (some false)) else (some false)) else (some false)))) = some r := H
          have A13 := Aside0.mk A130
          clear A130
          replace H := Option.bind_eq_some_iff.mp H
          obtain ⟨⟨t167, t168⟩, A140, H⟩ := H
          replace H : ((wide_Do.f 0 9 1 1).bind fun bt169 => (if t166 = 2 then (if t168 = 5 then (if bt169.2 = 2 then ((wide_Signed.f 1 1).bind fun t171 => (if t171 = (-1) then ((wide_Signed.f 16 32768).bind fun t172 => (if t172 = (-32768) then ((wide_Of.f 1 6).bind fun t173 => (if t173 = 0 then ((wide_Of.f 16 (-2)).bind fun t174 => (if t174 = 65534 then ((wide_Mask.f 7).bind fun t175 => (if t175 = 0 then ((wide_Out.f 2 8).bind fun t176 => (some (t176 == 0))) else (some false))) else (some false))) else (some false))) else (some false))) else (some false))) else (some false)) else (some false)) else (some false))) = some r := H
          have A14 := Aside0.mk A140
          clear A140
          replace H := Option.bind_eq_some_iff.mp H
          obtain ⟨⟨t169, t170⟩, A150, H⟩ := H
          replace H : (if t166 = 2 then (if t168 = 5 then (if t170 = 2 then ((wide_Signed.f 1 1).bind fun t171 => (if t171 = (-1) then ((wide_Signed.f 16 32768).bind fun t172 => (if t172 = (-32768) then ((wide_Of.f 1 6).bind fun t173 => (if t173 = 0 then ((wide_Of.f 16 (-2)).bind fun t174 => (if t174 = 65534 then ((wide_Mask.f 7).bind fun t175 => (if t175 = 0 then ((wide_Out.f 2 8).bind fun t176 => (some (t176 == 0))) else (some false))) else (some false))) else (some false))) else (some false))) else (some false))) else (some false)) else (some false)) else (some false)) = some r := H
          have A15 := Aside0.mk A150
          clear A150
          by_cases c16 : t166 = 2
          · rw [if_pos c16] at H
            have c16b0 : (t166 == 2) = true := beq_iff_eq.mpr c16
            have c16b1 : (t166 != 2) = false := bne_eq_false_iff_eq.mpr c16
            clear c16
            by_cases c17 : t168 = 5
            · rw [if_pos c17] at H
              have c17b0 : (t168 == 5) = true := beq_iff_eq.mpr c17
              have c17b1 : (t168 != 5) = false := bne_eq_false_iff_eq.mpr c17
              clear c17
              by_cases c18 : t170 = 2
              · rw [if_pos c18] at H
                have c18b0 : (t170 == 2) = true := beq_iff_eq.mpr c18
                have c18b1 : (t170 != 2) = false := bne_eq_false_iff_eq.mpr c18
                clear c18
                replace H := Option.bind_eq_some_iff.mp H
                obtain ⟨t171, A190, H⟩ := H
                replace H : (if t171 = (-1) then ((wide_Signed.f 16 32768).bind fun t172 => (if t172 = (-32768) then ((wide_Of.f 1 6).bind fun t173 => (if t173 = 0 then ((wide_Of.f 16 (-2)).bind fun t174 => (if t174 = 65534 then ((wide_Mask.f 7).bind fun t175 => (if t175 = 0 then ((wide_Out.f 2 8).bind fun t176 => (some (t176 == 0))) else (some false))) else (some false))) else (some false))) else (some false))) else (some false)) = some r := H
                have A19 := Aside0.mk A190
                clear A190
                by_cases c20 : t171 = (-1)
                · rw [if_pos c20] at H
                  have c20b0 : (t171 == (-1)) = true := beq_iff_eq.mpr c20
                  have c20b1 : (t171 != (-1)) = false := bne_eq_false_iff_eq.mpr c20
                  clear c20
                  replace H := Option.bind_eq_some_iff.mp H
                  obtain ⟨t172, A210, H⟩ := H
                  replace H : (if t172 = (-32768) then ((wide_Of.f 1 6).bind fun t173 => (if t173 = 0 then ((wide_Of.f 16 (-2)).bind fun t174 => (if t174 = 65534 then ((wide_Mask.f 7).bind fun t175 => (if t175 = 0 then ((wide_Out.f 2 8).bind fun t176 => (some (t176 == 0))) else (some false))) else (some false))) else (some false))) else (some false)) = some r := H
                  have A21 := Aside0.mk A210
                  clear A210
                  by_cases c22 : t172 = (-32768)
                  · rw [if_pos c22] at H
                    have c22b0 : (t172 == (-32768)) = true := beq_iff_eq.mpr c22
                    have c22b1 : (t172 != (-32768)) = false := bne_eq_false_iff_eq.mpr c22
                    clear c22
                    replace H := Option.bind_eq_some_iff.mp H
                    obtain ⟨t173, A230, H⟩ := H
                    replace H : (if t173 = 0 then ((wide_Of.f 16 (-2)).bind fun t174 => (if t174 = 65534 then ((wide_Mask.f 7).bind fun t175 => (if t175 = 0 then ((wide_Out.f 2 8).bind fun t176 => (some (t176 == 0))) else (some false))) else (some false))) else (some false)) = some r := H
                    have A23 := Aside0.mk A230
                    clear A230
                    by_cases c24 : t173 = 0
                    · rw [if_pos c24] at H
                      have c24b0 : (t173 == 0) = true := beq_iff_eq.mpr c24
                      have c24b1 : (t173 != 0) = false := bne_eq_false_iff_eq.mpr c24
                      clear c24
                      replace H := Option.bind_eq_some_iff.mp H
                      obtain ⟨t174, A250, H⟩ := H
                      replace H : (if t174 = 65534 then ((wide_Mask.f 7).bind fun t175 => (if t175 = 0 then ((wide_Out.f 2 8).bind fun t176 => (some (t176 == 0))) else (some false))) else (some false)) = some r := H
                      have A25 := Aside0.mk A250
                      clear A250
                      by_cases c26 : t174 = 65534
                      · rw [if_pos c26] at H
                        have c26b0 : (t174 == 65534) = true := beq_iff_eq.mpr c26
                        have c26b1 : (t174 != 65534) = false := bne_eq_false_iff_eq.mpr c26
                        clear c26
                        replace H := Option.bind_eq_some_iff.mp H
                        obtain ⟨t175, A270, H⟩ := H
                        replace H : (if t175 = 0 then ((wide_Out.f 2 8).bind fun t176 => (some (t176 == 0))) else (some false)) = some r := H
                        have A27 := Aside0.mk A270
                        clear A270
                        by_cases c28 : t175 = 0
                        · rw [if_pos c28] at H
                          have c28b0 : (t175 == 0) = true := beq_iff_eq.mpr c28
                          have c28b1 : (t175 != 0) = false := bne_eq_false_iff_eq.mpr c28
                          clear c28
                          replace H := Option.bind_eq_some_iff.mp H
                          obtain ⟨t176, A290, H⟩ := H
                          replace H : (some (t176 == 0)) = some r := H
                          have A29 := Aside0.mk A290
                          clear A290
                          obtain rfl := Option.some.inj H
                          obtain ⟨Ao30, co30, eo30⟩ := Kd.R_slice HO_1.out
                          subst eo30
                          go_wp2_with (first | (go_at_call 10; (with_reducible refine (wide_Do.calls 7 4 1 1 t165 t166 _ A13.out).mono ?_); rintro e w' ⟨rfl, ⟨nd, rfl⟩⟩; (try first | exact ⟨rfl, _, World.drewN_drewN _ _ _⟩ | exact ⟨rfl, _, Eq.trans (World.drewN_drewN _ _ _) (congrArg (World.drewN _) (Nat.add_assoc _ _ _))⟩)) | (go_at_call 10; (with_reducible refine (wide_Do.calls 16 8 1 1 t167 t168 _ A14.out).mono ?_); rintro e w' ⟨rfl, ⟨nd, rfl⟩⟩; (try first | exact ⟨rfl, _, World.drewN_drewN _ _ _⟩ | exact ⟨rfl, _, Eq.trans (World.drewN_drewN _ _ _) (congrArg (World.drewN _) (Nat.add_assoc _ _ _))⟩)) | (go_at_call 10; (with_reducible refine (wide_Do.calls 0 9 1 1 t169 t170 _ A15.out).mono ?_); rintro e w' ⟨rfl, ⟨nd, rfl⟩⟩; (try first | exact ⟨rfl, _, World.drewN_drewN _ _ _⟩ | exact ⟨rfl, _, Eq.trans (World.drewN_drewN _ _ _) (congrArg (World.drewN _) (Nat.add_assoc _ _ _))⟩)) | (go_at_call 17; (with_reducible refine (wide_Signed.calls 1 1 t171 _ A19.out).mono ?_); rintro e w' ⟨rfl, ⟨nd, rfl⟩⟩; (try first | exact ⟨rfl, _, World.drewN_drewN _ _ _⟩ | exact ⟨rfl, _, Eq.trans (World.drewN_drewN _ _ _) (congrArg (World.drewN _) (Nat.add_assoc _ _ _))⟩)) | (go_at_call 17; (with_reducible refine (wide_Signed.calls 16 32768 t172 _ A21.out).mono ?_); rintro e w' ⟨rfl, ⟨nd, rfl⟩⟩; (try first | exact ⟨rfl, _, World.drewN_drewN _ _ _⟩ | exact ⟨rfl, _, Eq.trans (World.drewN_drewN _ _ _) (congrArg (World.drewN _) (Nat.add_assoc _ _ _))⟩)) | (go_at_call 18; (with_reducible refine (wide_Of.calls 1 6 t173 _ A23.out).mono ?_); rintro e w' ⟨rfl, ⟨nd, rfl⟩⟩; (try first | exact ⟨rfl, _, World.drewN_drewN _ _ _⟩ | exact ⟨rfl, _, Eq.trans (World.drewN_drewN _ _ _) (congrArg (World.drewN _) (Nat.add_assoc _ _ _))⟩)) | (go_at_call 18; (with_reducible refine (wide_Of.calls 16 (-2) t174 _ A25.out).mono ?_); rintro e w' ⟨rfl, ⟨nd, rfl⟩⟩; (try first | exact ⟨rfl, _, World.drewN_drewN _ _ _⟩ | exact ⟨rfl, _, Eq.trans (World.drewN_drewN _ _ _) (congrArg (World.drewN _) (Nat.add_assoc _ _ _))⟩)) | (go_at_call 15; (with_reducible refine (wide_Mask.calls 7 t175 _ A27.out).mono ?_); rintro e w' ⟨rfl, ⟨nd, rfl⟩⟩; (try first | exact ⟨rfl, _, World.drewN_drewN _ _ _⟩ | exact ⟨rfl, _, Eq.trans (World.drewN_drewN _ _ _) (congrArg (World.drewN _) (Nat.add_assoc _ _ _))⟩)) | (go_at_call 12; (with_reducible refine (wide_Out.calls 2 8 t176 _ A29.out).mono ?_); rintro e w' ⟨rfl, ⟨nd, rfl⟩⟩; (try first | exact ⟨rfl, _, World.drewN_drewN _ _ _⟩ | exact ⟨rfl, _, Eq.trans (World.drewN_drewN _ _ _) (congrArg (World.drewN _) (Nat.add_assoc _ _ _))⟩)))
                          repeat (go_quiet (first | (go_at_call 10; (with_reducible refine (wide_Do.calls 7 4 1 1 t165 t166 _ A13.out).mono ?_); rintro e w' ⟨rfl, ⟨nd, rfl⟩⟩; (try first | exact ⟨rfl, _, World.drewN_drewN _ _ _⟩ | exact ⟨rfl, _, Eq.trans (World.drewN_drewN _ _ _) (congrArg (World.drewN _) (Nat.add_assoc _ _ _))⟩)) | (go_at_call 10; (with_reducible refine (wide_Do.calls 16 8 1 1 t167 t168 _ A14.out).mono ?_); rintro e w' ⟨rfl, ⟨nd, rfl⟩⟩; (try first | exact ⟨rfl, _, World.drewN_drewN _ _ _⟩ | exact ⟨rfl, _, Eq.trans (World.drewN_drewN _ _ _) (congrArg (World.drewN _) (Nat.add_assoc _ _ _))⟩)) | (go_at_call 10; (with_reducible refine (wide_Do.calls 0 9 1 1 t169 t170 _ A15.out).mono ?_); rintro e w' ⟨rfl, ⟨nd, rfl⟩⟩; (try first | exact ⟨rfl, _, World.drewN_drewN _ _ _⟩ | exact ⟨rfl, _, Eq.trans (World.drewN_drewN _ _ _) (congrArg (World.drewN _) (Nat.add_assoc _ _ _))⟩)) | (go_at_call 17; (with_reducible refine (wide_Signed.calls 1 1 t171 _ A19.out).mono ?_); rintro e w' ⟨rfl, ⟨nd, rfl⟩⟩; (try first | exact ⟨rfl, _, World.drewN_drewN _ _ _⟩ | exact ⟨rfl, _, Eq.trans (World.drewN_drewN _ _ _) (congrArg (World.drewN _) (Nat.add_assoc _ _ _))⟩)) | (go_at_call 17; (with_reducible refine (wide_Signed.calls 16 32768 t172 _ A21.out).mono ?_); rintro e w' ⟨rfl, ⟨nd, rfl⟩⟩; (try first | exact ⟨rfl, _, World.drewN_drewN _ _ _⟩ | exact ⟨rfl, _, Eq.trans (World.drewN_drewN _ _ _) (congrArg (World.drewN _) (Nat.add_assoc _ _ _))⟩)) | (go_at_call 18; (with_reducible refine (wide_Of.calls 1 6 t173 _ A23.out).mono ?_); rintro e w' ⟨rfl, ⟨nd, rfl⟩⟩; (try first | exact ⟨rfl, _, World.drewN_drewN _ _ _⟩ | exact ⟨rfl, _, Eq.trans (World.drewN_drewN _ _ _) (congrArg (World.drewN _) (Nat.add_assoc _ _ _))⟩)) | (go_at_call 18; (with_reducible refine (wide_Of.calls 16 (-2) t174 _ A25.out).mono ?_); rintro e w' ⟨rfl, ⟨nd, rfl⟩⟩; (try first | exact ⟨rfl, _, World.drewN_drewN _ _ _⟩ | exact ⟨rfl, _, Eq.trans (World.drewN_drewN _ _ _) (congrArg (World.drewN _) (Nat.add_assoc _ _ _))⟩)) | (go_at_call 15; (with_reducible refine (wide_Mask.calls 7 t175 _ A27.out).mono ?_); rintro e w' ⟨rfl, ⟨nd, rfl⟩⟩; (try first | exact ⟨rfl, _, World.drewN_drewN _ _ _⟩ | exact ⟨rfl, _, Eq.trans (World.drewN_drewN _ _ _) (congrArg (World.drewN _) (Nat.add_assoc _ _ _))⟩)) | (go_at_call 12; (with_reducible refine (wide_Out.calls 2 8 t176 _ A29.out).mono ?_); rintro e w' ⟨rfl, ⟨nd, rfl⟩⟩; (try first | exact ⟨rfl, _, World.drewN_drewN _ _ _⟩ | exact ⟨rfl, _, Eq.trans (World.drewN_drewN _ _ _) (congrArg (World.drewN _) (Nat.add_assoc _ _ _))⟩))); try go_wp2_with (first | (go_at_call 10; (with_reducible refine (wide_Do.calls 7 4 1 1 t165 t166 _ A13.out).mono ?_); rintro e w' ⟨rfl, ⟨nd, rfl⟩⟩; (try first | exact ⟨rfl, _, World.drewN_drewN _ _ _⟩ | exact ⟨rfl, _, Eq.trans (World.drewN_drewN _ _ _) (congrArg (World.drewN _) (Nat.add_assoc _ _ _))⟩)) | (go_at_call 10; (with_reducible refine (wide_Do.calls 16 8 1 1 t167 t168 _ A14.out).mono ?_); rintro e w' ⟨rfl, ⟨nd, rfl⟩⟩; (try first | exact ⟨rfl, _, World.drewN_drewN _ _ _⟩ | exact ⟨rfl, _, Eq.trans (World.drewN_drewN _ _ _) (congrArg (World.drewN _) (Nat.add_assoc _ _ _))⟩)) | (go_at_call 10; (with_reducible refine (wide_Do.calls 0 9 1 1 t169 t170 _ A15.out).mono ?_); rintro e w' ⟨rfl, ⟨nd, rfl⟩⟩; (try first | exact ⟨rfl, _, World.drewN_drewN _ _ _⟩ | exact ⟨rfl, _, Eq.trans (World.drewN_drewN _ _ _) (congrArg (World.drewN _) (Nat.add_assoc _ _ _))⟩)) | (go_at_call 17; (with_reducible refine (wide_Signed.calls 1 1 t171 _ A19.out).mono ?_); rintro e w' ⟨rfl, ⟨nd, rfl⟩⟩; (try first | exact ⟨rfl, _, World.drewN_drewN _ _ _⟩ | exact ⟨rfl, _, Eq.trans (World.drewN_drewN _ _ _) (congrArg (World.drewN _) (Nat.add_assoc _ _ _))⟩)) | (go_at_call 17; (with_reducible refine (wide_Signed.calls 16 32768 t172 _ A21.out).mono ?_); rintro e w' ⟨rfl, ⟨nd, rfl⟩⟩; (try first | exact ⟨rfl, _, World.drewN_drewN _ _ _⟩ | exact ⟨rfl, _, Eq.trans (World.drewN_drewN _ _ _) (congrArg (World.drewN _) (Nat.add_assoc _ _ _))⟩)) | (go_at_call 18; (with_reducible refine (wide_Of.calls 1 6 t173 _ A23.out).mono ?_); rintro e w' ⟨rfl, ⟨nd, rfl⟩⟩; (try first | exact ⟨rfl, _, World.drewN_drewN _ _ _⟩ | exact ⟨rfl, _, Eq.trans (World.drewN_drewN _ _ _) (congrArg (World.drewN _) (Nat.add_assoc _ _ _))⟩)) | (go_at_call 18; (with_reducible refine (wide_Of.calls 16 (-2) t174 _ A25.out).mono ?_); rintro e w' ⟨rfl, ⟨nd, rfl⟩⟩; (try first | exact ⟨rfl, _, World.drewN_drewN _ _ _⟩ | exact ⟨rfl, _, Eq.trans (World.drewN_drewN _ _ _) (congrArg (World.drewN _) (Nat.add_assoc _ _ _))⟩)) | (go_at_call 15; (with_reducible refine (wide_Mask.calls 7 t175 _ A27.out).mono ?_); rintro e w' ⟨rfl, ⟨nd, rfl⟩⟩; (try first | exact ⟨rfl, _, World.drewN_drewN _ _ _⟩ | exact ⟨rfl, _, Eq.trans (World.drewN_drewN _ _ _) (congrArg (World.drewN _) (Nat.add_assoc _ _ _))⟩)) | (go_at_call 12; (with_reducible refine (wide_Out.calls 2 8 t176 _ A29.out).mono ?_); rintro e w' ⟨rfl, ⟨nd, rfl⟩⟩; (try first | exact ⟨rfl, _, World.drewN_drewN _ _ _⟩ | exact ⟨rfl, _, Eq.trans (World.drewN_drewN _ _ _) (congrArg (World.drewN _) (Nat.add_assoc _ _ _))⟩))))
                          go_ret
                          exact ⟨by first | rfl | (simp [errW_none, errW_some] <;> rfl) | (simp [*, errW_none, errW_some] <;> rfl), by repeat (first | (with_reducible first | exact HB.out | apply below_alloc | apply pw_below_drewN | apply below_drew1) | exact HB.out)⟩
                        · rw [if_neg c28] at H
                          have c28b0 : (t175 == 0) = false := beq_eq_false_iff_ne.mpr c28
                          have c28b1 : (t175 != 0) = true := bne_iff_ne.mpr c28
                          obtain rfl := Option.some.inj H
                          obtain ⟨Ao31, co31, eo31⟩ := Kd.R_slice HO_1.out
                          subst eo31
                          go_wp2_with (first | (go_at_call 10; (with_reducible refine (wide_Do.calls 7 4 1 1 t165 t166 _ A13.out).mono ?_); rintro e w' ⟨rfl, ⟨nd, rfl⟩⟩; (try first | exact ⟨rfl, _, World.drewN_drewN _ _ _⟩ | exact ⟨rfl, _, Eq.trans (World.drewN_drewN _ _ _) (congrArg (World.drewN _) (Nat.add_assoc _ _ _))⟩)) | (go_at_call 10; (with_reducible refine (wide_Do.calls 16 8 1 1 t167 t168 _ A14.out).mono ?_); rintro e w' ⟨rfl, ⟨nd, rfl⟩⟩; (try first | exact ⟨rfl, _, World.drewN_drewN _ _ _⟩ | exact ⟨rfl, _, Eq.trans (World.drewN_drewN _ _ _) (congrArg (World.drewN _) (Nat.add_assoc _ _ _))⟩)) | (go_at_call 10; (with_reducible refine (wide_Do.calls 0 9 1 1 t169 t170 _ A15.out).mono ?_); rintro e w' ⟨rfl, ⟨nd, rfl⟩⟩; (try first | exact ⟨rfl, _, World.drewN_drewN _ _ _⟩ | exact ⟨rfl, _, Eq.trans (World.drewN_drewN _ _ _) (congrArg (World.drewN _) (Nat.add_assoc _ _ _))⟩)) | (go_at_call 17; (with_reducible refine (wide_Signed.calls 1 1 t171 _ A19.out).mono ?_); rintro e w' ⟨rfl, ⟨nd, rfl⟩⟩; (try first | exact ⟨rfl, _, World.drewN_drewN _ _ _⟩ | exact ⟨rfl, _, Eq.trans (World.drewN_drewN _ _ _) (congrArg (World.drewN _) (Nat.add_assoc _ _ _))⟩)) | (go_at_call 17; (with_reducible refine (wide_Signed.calls 16 32768 t172 _ A21.out).mono ?_); rintro e w' ⟨rfl, ⟨nd, rfl⟩⟩; (try first | exact ⟨rfl, _, World.drewN_drewN _ _ _⟩ | exact ⟨rfl, _, Eq.trans (World.drewN_drewN _ _ _) (congrArg (World.drewN _) (Nat.add_assoc _ _ _))⟩)) | (go_at_call 18; (with_reducible refine (wide_Of.calls 1 6 t173 _ A23.out).mono ?_); rintro e w' ⟨rfl, ⟨nd, rfl⟩⟩; (try first | exact ⟨rfl, _, World.drewN_drewN _ _ _⟩ | exact ⟨rfl, _, Eq.trans (World.drewN_drewN _ _ _) (congrArg (World.drewN _) (Nat.add_assoc _ _ _))⟩)) | (go_at_call 18; (with_reducible refine (wide_Of.calls 16 (-2) t174 _ A25.out).mono ?_); rintro e w' ⟨rfl, ⟨nd, rfl⟩⟩; (try first | exact ⟨rfl, _, World.drewN_drewN _ _ _⟩ | exact ⟨rfl, _, Eq.trans (World.drewN_drewN _ _ _) (congrArg (World.drewN _) (Nat.add_assoc _ _ _))⟩)) | (go_at_call 15; (with_reducible refine (wide_Mask.calls 7 t175 _ A27.out).mono ?_); rintro e w' ⟨rfl, ⟨nd, rfl⟩⟩; (try first | exact ⟨rfl, _, World.drewN_drewN _ _ _⟩ | exact ⟨rfl, _, Eq.trans (World.drewN_drewN _ _ _) (congrArg (World.drewN _) (Nat.add_assoc _ _ _))⟩)))
                          repeat (go_quiet (first | (go_at_call 10; (with_reducible refine (wide_Do.calls 7 4 1 1 t165 t166 _ A13.out).mono ?_); rintro e w' ⟨rfl, ⟨nd, rfl⟩⟩; (try first | exact ⟨rfl, _, World.drewN_drewN _ _ _⟩ | exact ⟨rfl, _, Eq.trans (World.drewN_drewN _ _ _) (congrArg (World.drewN _) (Nat.add_assoc _ _ _))⟩)) | (go_at_call 10; (with_reducible refine (wide_Do.calls 16 8 1 1 t167 t168 _ A14.out).mono ?_); rintro e w' ⟨rfl, ⟨nd, rfl⟩⟩; (try first | exact ⟨rfl, _, World.drewN_drewN _ _ _⟩ | exact ⟨rfl, _, Eq.trans (World.drewN_drewN _ _ _) (congrArg (World.drewN _) (Nat.add_assoc _ _ _))⟩)) | (go_at_call 10; (with_reducible refine (wide_Do.calls 0 9 1 1 t169 t170 _ A15.out).mono ?_); rintro e w' ⟨rfl, ⟨nd, rfl⟩⟩; (try first | exact ⟨rfl, _, World.drewN_drewN _ _ _⟩ | exact ⟨rfl, _, Eq.trans (World.drewN_drewN _ _ _) (congrArg (World.drewN _) (Nat.add_assoc _ _ _))⟩)) | (go_at_call 17; (with_reducible refine (wide_Signed.calls 1 1 t171 _ A19.out).mono ?_); rintro e w' ⟨rfl, ⟨nd, rfl⟩⟩; (try first | exact ⟨rfl, _, World.drewN_drewN _ _ _⟩ | exact ⟨rfl, _, Eq.trans (World.drewN_drewN _ _ _) (congrArg (World.drewN _) (Nat.add_assoc _ _ _))⟩)) | (go_at_call 17; (with_reducible refine (wide_Signed.calls 16 32768 t172 _ A21.out).mono ?_); rintro e w' ⟨rfl, ⟨nd, rfl⟩⟩; (try first | exact ⟨rfl, _, World.drewN_drewN _ _ _⟩ | exact ⟨rfl, _, Eq.trans (World.drewN_drewN _ _ _) (congrArg (World.drewN _) (Nat.add_assoc _ _ _))⟩)) | (go_at_call 18; (with_reducible refine (wide_Of.calls 1 6 t173 _ A23.out).mono ?_); rintro e w' ⟨rfl, ⟨nd, rfl⟩⟩; (try first | exact ⟨rfl, _, World.drewN_drewN _ _ _⟩ | exact ⟨rfl, _, Eq.trans (World.drewN_drewN _ _ _) (congrArg (World.drewN _) (Nat.add_assoc _ _ _))⟩)) | (go_at_call 18; (with_reducible refine (wide_Of.calls 16 (-2) t174 _ A25.out).mono ?_); rintro e w' ⟨rfl, ⟨nd, rfl⟩⟩; (try first | exact ⟨rfl, _, World.drewN_drewN _ _ _⟩ | exact ⟨rfl, _, Eq.trans (World.drewN_drewN _ _ _) (congrArg (World.drewN _) (Nat.add_assoc _ _ _))⟩)) | (go_at_call 15; (with_reducible refine (wide_Mask.calls 7 t175 _ A27.out).mono ?_); rintro e w' ⟨rfl, ⟨nd, rfl⟩⟩; (try first | exact ⟨rfl, _, World.drewN_drewN _ _ _⟩ | exact ⟨rfl, _, Eq.trans (World.drewN_drewN _ _ _) (congrArg (World.drewN _) (Nat.add_assoc _ _ _))⟩))); try go_wp2_with (first | (go_at_call 10; (with_reducible refine (wide_Do.calls 7 4 1 1 t165 t166 _ A13.out).mono ?_); rintro e w' ⟨rfl, ⟨nd, rfl⟩⟩; (try first | exact ⟨rfl, _, World.drewN_drewN _ _ _⟩ | exact ⟨rfl, _, Eq.trans (World.drewN_drewN _ _ _) (congrArg (World.drewN _) (Nat.add_assoc _ _ _))⟩)) | (go_at_call 10; (with_reducible refine (wide_Do.calls 16 8 1 1 t167 t168 _ A14.out).mono ?_); rintro e w' ⟨rfl, ⟨nd, rfl⟩⟩; (try first | exact ⟨rfl, _, World.drewN_drewN _ _ _⟩ | exact ⟨rfl, _, Eq.trans (World.drewN_drewN _ _ _) (congrArg (World.drewN _) (Nat.add_assoc _ _ _))⟩)) | (go_at_call 10; (with_reducible refine (wide_Do.calls 0 9 1 1 t169 t170 _ A15.out).mono ?_); rintro e w' ⟨rfl, ⟨nd, rfl⟩⟩; (try first | exact ⟨rfl, _, World.drewN_drewN _ _ _⟩ | exact ⟨rfl, _, Eq.trans (World.drewN_drewN _ _ _) (congrArg (World.drewN _) (Nat.add_assoc _ _ _))⟩)) | (go_at_call 17; (with_reducible refine (wide_Signed.calls 1 1 t171 _ A19.out).mono ?_); rintro e w' ⟨rfl, ⟨nd, rfl⟩⟩; (try first | exact ⟨rfl, _, World.drewN_drewN _ _ _⟩ | exact ⟨rfl, _, Eq.trans (World.drewN_drewN _ _ _) (congrArg (World.drewN _) (Nat.add_assoc _ _ _))⟩)) | (go_at_call 17; (with_reducible refine (wide_Signed.calls 16 32768 t172 _ A21.out).mono ?_); rintro e w' ⟨rfl, ⟨nd, rfl⟩⟩; (try first | exact ⟨rfl, _, World.drewN_drewN _ _ _⟩ | exact ⟨rfl, _, Eq.trans (World.drewN_drewN _ _ _) (congrArg (World.drewN _) (Nat.add_assoc _ _ _))⟩)) | (go_at_call 18; (with_reducible refine (wide_Of.calls 1 6 t173 _ A23.out).mono ?_); rintro e w' ⟨rfl, ⟨nd, rfl⟩⟩; (try first | exact ⟨rfl, _, World.drewN_drewN _ _ _⟩ | exact ⟨rfl, _, Eq.trans (World.drewN_drewN _ _ _) (congrArg (World.drewN _) (Nat.add_assoc _ _ _))⟩)) | (go_at_call 18; (with_reducible refine (wide_Of.calls 16 (-2) t174 _ A25.out).mono ?_); rintro e w' ⟨rfl, ⟨nd, rfl⟩⟩; (try first | exact ⟨rfl, _, World.drewN_drewN _ _ _⟩ | exact ⟨rfl, _, Eq.trans (World.drewN_drewN _ _ _) (congrArg (World.drewN _) (Nat.add_assoc _ _ _))⟩)) | (go_at_call 15; (with_reducible refine (wide_Mask.calls 7 t175 _ A27.out).mono ?_); rintro e w' ⟨rfl, ⟨nd, rfl⟩⟩; (try first | exact ⟨rfl, _, World.drewN_drewN _ _ _⟩ | exact ⟨rfl, _, Eq.trans (World.drewN_drewN _ _ _) (congrArg (World.drewN _) (Nat.add_assoc _ _ _))⟩))))
                          go_ret
                          exact ⟨by first | rfl | (simp [errW_none, errW_some] <;> rfl) | (simp [*, errW_none, errW_some] <;> rfl), by repeat (first | (with_reducible first | exact HB.out | apply below_alloc | apply pw_below_drewN | apply below_drew1) | exact HB.out)⟩
                      · rw [if_neg c26] at H
                        have c26b0 : (t174 == 65534) = false := beq_eq_false_iff_ne.mpr c26
                        have c26b1 : (t174 != 65534) = true := bne_iff_ne.mpr c26
                        obtain rfl := Option.some.inj H
                        obtain ⟨Ao32, co32, eo32⟩ := Kd.R_slice HO_1.out
                        subst eo32
                        go_wp2_with (first | (go_at_call 10; (with_reducible refine (wide_Do.calls 7 4 1 1 t165 t166 _ A13.out).mono ?_); rintro e w' ⟨rfl, ⟨nd, rfl⟩⟩; (try first | exact ⟨rfl, _, World.drewN_drewN _ _ _⟩ | exact ⟨rfl, _, Eq.trans (World.drewN_drewN _ _ _) (congrArg (World.drewN _) (Nat.add_assoc _ _ _))⟩)) | (go_at_call 10; (with_reducible refine (wide_Do.calls 16 8 1 1 t167 t168 _ A14.out).mono ?_); rintro e w' ⟨rfl, ⟨nd, rfl⟩⟩; (try first | exact ⟨rfl, _, World.drewN_drewN _ _ _⟩ | exact ⟨rfl, _, Eq.trans (World.drewN_drewN _ _ _) (congrArg (World.drewN _) (Nat.add_assoc _ _ _))⟩)) | (go_at_call 10; (with_reducible refine (wide_Do.calls 0 9 1 1 t169 t170 _ A15.out).mono ?_); rintro e w' ⟨rfl, ⟨nd, rfl⟩⟩; (try first | exact ⟨rfl, _, World.drewN_drewN _ _ _⟩ | exact ⟨rfl, _, Eq.trans (World.drewN_drewN _ _ _) (congrArg (World.drewN _) (Nat.add_assoc _ _ _))⟩)) | (go_at_call 17; (with_reducible refine (wide_Signed.calls 1 1 t171 _ A19.out).mono ?_); rintro e w' ⟨rfl, ⟨nd, rfl⟩⟩; (try first | exact ⟨rfl, _, World.drewN_drewN _ _ _⟩ | exact ⟨rfl, _, Eq.trans (World.drewN_drewN _ _ _) (congrArg (World.drewN _) (Nat.add_assoc _ _ _))⟩)) | (go_at_call 17; (with_reducible refine (wide_Signed.calls 16 32768 t172 _ A21.out).mono ?_); rintro e w' ⟨rfl, ⟨nd, rfl⟩⟩; (try first | exact ⟨rfl, _, World.drewN_drewN _ _ _⟩ | exact ⟨rfl, _, Eq.trans (World.drewN_drewN _ _ _) (congrArg (World.drewN _) (Nat.add_assoc _ _ _))⟩)) | (go_at_call 18; (with_reducible refine (wide_Of.calls 1 6 t173 _ A23.out).mono ?_); rintro e w' ⟨rfl, ⟨nd, rfl⟩⟩; (try first | exact ⟨rfl, _, World.drewN_drewN _ _ _⟩ | exact ⟨rfl, _, Eq.trans (World.drewN_drewN _ _ _) (congrArg (World.drewN _) (Nat.add_assoc _ _ _))⟩)) | (go_at_call 18; (with_reducible refine (wide_Of.calls 16 (-2) t174 _ A25.out).mono ?_); rintro e w' ⟨rfl, ⟨nd, rfl⟩⟩; (try first | exact ⟨rfl, _, World.drewN_drewN _ _ _⟩ | exact ⟨rfl, _, Eq.trans (World.drewN_drewN _ _ _) (congrArg (World.drewN _) (Nat.add_assoc _ _ _))⟩)))
                        repeat (go_quiet (first | (go_at_call 10; (with_reducible refine (wide_Do.calls 7 4 1 1 t165 t166 _ A13.out).mono ?_); rintro e w' ⟨rfl, ⟨nd, rfl⟩⟩; (try first | exact ⟨rfl, _, World.drewN_drewN _ _ _⟩ | exact ⟨rfl, _, Eq.trans (World.drewN_drewN _ _ _) (congrArg (World.drewN _) (Nat.add_assoc _ _ _))⟩)) | (go_at_call 10; (with_reducible refine (wide_Do.calls 16 8 1 1 t167 t168 _ A14.out).mono ?_); rintro e w' ⟨rfl, ⟨nd, rfl⟩⟩; (try first | exact ⟨rfl, _, World.drewN_drewN _ _ _⟩ | exact ⟨rfl, _, Eq.trans (World.drewN_drewN _ _ _) (congrArg (World.drewN _) (Nat.add_assoc _ _ _))⟩)) | (go_at_call 10; (with_reducible refine (wide_Do.calls 0 9 1 1 t169 t170 _ A15.out).mono ?_); rintro e w' ⟨rfl, ⟨nd, rfl⟩⟩; (try first | exact ⟨rfl, _, World.drewN_drewN _ _ _⟩ | exact ⟨rfl, _, Eq.trans (World.drewN_drewN _ _ _) (congrArg (World.drewN _) (Nat.add_assoc _ _ _))⟩)) | (go_at_call 17; (with_reducible refine (wide_Signed.calls 1 1 t171 _ A19.out).mono ?_); rintro e w' ⟨rfl, ⟨nd, rfl⟩⟩; (try first | exact ⟨rfl, _, World.drewN_drewN _ _ _⟩ | exact ⟨rfl, _, Eq.trans (World.drewN_drewN _ _ _) (congrArg (World.drewN _) (Nat.add_assoc _ _ _))⟩)) | (go_at_call 17; (with_reducible refine (wide_Signed.calls 16 32768 t172 _ A21.out).mono ?_); rintro e w' ⟨rfl, ⟨nd, rfl⟩⟩; (try first | exact ⟨rfl, _, World.drewN_drewN _ _ _⟩ | exact ⟨rfl, _, Eq.trans (World.drewN_drewN _ _ _) (congrArg (World.drewN _) (Nat.add_assoc _ _ _))⟩)) | (go_at_call 18; (with_reducible refine (wide_Of.calls 1 6 t173 _ A23.out).mono ?_); rintro e w' ⟨rfl, ⟨nd, rfl⟩⟩; (try first | exact ⟨rfl, _, World.drewN_drewN _ _ _⟩ | exact ⟨rfl, _, Eq.trans (World.drewN_drewN _ _ _) (congrArg (World.drewN _) (Nat.add_assoc _ _ _))⟩)) | (go_at_call 18; (with_reducible refine (wide_Of.calls 16 (-2) t174 _ A25.out).mono ?_); rintro e w' ⟨rfl, ⟨nd, rfl⟩⟩; (try first | exact ⟨rfl, _, World.drewN_drewN _ _ _⟩ | exact ⟨rfl, _, Eq.trans (World.drewN_drewN _ _ _) (congrArg (World.drewN _) (Nat.add_assoc _ _ _))⟩))); try go_wp2_with (first | (go_at_call 10; (with_reducible refine (wide_Do.calls 7 4 1 1 t165 t166 _ A13.out).mono ?_); rintro e w' ⟨rfl, ⟨nd, rfl⟩⟩; (try first | exact ⟨rfl, _, World.drewN_drewN _ _ _⟩ | exact ⟨rfl, _, Eq.trans (World.drewN_drewN _ _ _) (congrArg (World.drewN _) (Nat.add_assoc _ _ _))⟩)) | (go_at_call 10; (with_reducible refine (wide_Do.calls 16 8 1 1 t167 t168 _ A14.out).mono ?_); rintro e w' ⟨rfl, ⟨nd, rfl⟩⟩; (try first | exact ⟨rfl, _, World.drewN_drewN _ _ _⟩ | exact ⟨rfl, _, Eq.trans (World.drewN_drewN _ _ _) (congrArg (World.drewN _) (Nat.add_assoc _ _ _))⟩)) | (go_at_call 10; (with_reducible refine (wide_Do.calls 0 9 1 1 t169 t170 _ A15.out).mono ?_); rintro e w' ⟨rfl, ⟨nd, rfl⟩⟩; (try first | exact ⟨rfl, _, World.drewN_drewN _ _ _⟩ | exact ⟨rfl, _, Eq.trans (World.drewN_drewN _ _ _) (congrArg (World.drewN _) (Nat.add_assoc _ _ _))⟩)) | (go_at_call 17; (with_reducible refine (wide_Signed.calls 1 1 t171 _ A19.out).mono ?_); rintro e w' ⟨rfl, ⟨nd, rfl⟩⟩; (try first | exact ⟨rfl, _, World.drewN_drewN _ _ _⟩ | exact ⟨rfl, _, Eq.trans (World.drewN_drewN _ _ _) (congrArg (World.drewN _) (Nat.add_assoc _ _ _))⟩)) | (go_at_call 17; (with_reducible refine (wide_Signed.calls 16 32768 t172 _ A21.out).mono ?_); rintro e w' ⟨rfl, ⟨nd, rfl⟩⟩; (try first | exact ⟨rfl, _, World.drewN_drewN _ _ _⟩ | exact ⟨rfl, _, Eq.trans (World.drewN_drewN _ _ _) (congrArg (World.drewN _) (Nat.add_assoc _ _ _))⟩)) | (go_at_call 18; (with_reducible refine (wide_Of.calls 1 6 t173 _ A23.out).mono ?_); rintro e w' ⟨rfl, ⟨nd, rfl⟩⟩; (try first | exact ⟨rfl, _, World.drewN_drewN _ _ _⟩ | exact ⟨rfl, _, Eq.trans (World.drewN_drewN _ _ _) (congrArg (World.drewN _) (Nat.add_assoc _ _ _))⟩)) | (go_at_call 18; (with_reducible refine (wide_Of.calls 16 (-2) t174 _ A25.out).mono ?_); rintro e w' ⟨rfl, ⟨nd, rfl⟩⟩; (try first | exact ⟨rfl, _, World.drewN_drewN _ _ _⟩ | exact ⟨rfl, _, Eq.trans (World.drewN_drewN _ _ _) (congrArg (World.drewN _) (Nat.add_assoc _ _ _))⟩))))
                        go_ret
                        exact ⟨by first | rfl | (simp [errW_none, errW_some] <;> rfl) | (simp [*, errW_none, errW_some] <;> rfl), by repeat (first | (with_reducible first | exact HB.out | apply below_alloc | apply pw_below_drewN | apply below_drew1) | exact HB.out)⟩
                    · rw [if_neg c24] at H
                      have c24b0 : (t173 == 0) = false := beq_eq_false_iff_ne.mpr c24
                      have c24b1 : (t173 != 0) = true := bne_iff_ne.mpr c24
                      obtain rfl := Option.some.inj H
                      obtain ⟨Ao33, co33, eo33⟩ := Kd.R_slice HO_1.out
                      subst eo33
                      go_wp2_with (first | (go_at_call 10; (with_reducible refine (wide_Do.calls 7 4 1 1 t165 t166 _ A13.out).mono ?_); rintro e w' ⟨rfl, ⟨nd, rfl⟩⟩; (try first | exact ⟨rfl, _, World.drewN_drewN _ _ _⟩ | exact ⟨rfl, _, Eq.trans (World.drewN_drewN _ _ _) (congrArg (World.drewN _) (Nat.add_assoc _ _ _))⟩)) | (go_at_call 10; (with_reducible refine (wide_Do.calls 16 8 1 1 t167 t168 _ A14.out).mono ?_); rintro e w' ⟨rfl, ⟨nd, rfl⟩⟩; (try first | exact ⟨rfl, _, World.drewN_drewN _ _ _⟩ | exact ⟨rfl, _, Eq.trans (World.drewN_drewN _ _ _) (congrArg (World.drewN _) (Nat.add_assoc _ _ _))⟩)) | (go_at_call 10; (with_reducible refine (wide_Do.calls 0 9 1 1 t169 t170 _ A15.out).mono ?_); rintro e w' ⟨rfl, ⟨nd, rfl⟩⟩; (try first | exact ⟨rfl, _, World.drewN_drewN _ _ _⟩ | exact ⟨rfl, _, Eq.trans (World.drewN_drewN _ _ _) (congrArg (World.drewN _) (Nat.add_assoc _ _ _))⟩)) | (go_at_call 17; (with_reducible refine (wide_Signed.calls 1 1 t171 _ A19.out).mono ?_); rintro e w' ⟨rfl, ⟨nd, rfl⟩⟩; (try first | exact ⟨rfl, _, World.drewN_drewN _ _ _⟩ | exact ⟨rfl, _, Eq.trans (World.drewN_drewN _ _ _) (congrArg (World.drewN _) (Nat.add_assoc _ _ _))⟩)) | (go_at_call 17; (with_reducible refine (wide_Signed.calls 16 32768 t172 _ A21.out).mono ?_); rintro e w' ⟨rfl, ⟨nd, rfl⟩⟩; (try first | exact ⟨rfl, _, World.drewN_drewN _ _ _⟩ | exact ⟨rfl, _, Eq.trans (World.drewN_drewN _ _ _) (congrArg (World.drewN _) (Nat.add_assoc _ _ _))⟩)) | (go_at_call 18; (with_reducible refine (wide_Of.calls 1 6 t173 _ A23.out).mono ?_); rintro e w' ⟨rfl, ⟨nd, rfl⟩⟩; (try first | exact ⟨rfl, _, World.drewN_drewN _ _ _⟩ | exact ⟨rfl, _, Eq.trans (World.drewN_drewN _ _ _) (congrArg (World.drewN _) (Nat.add_assoc _ _ _))⟩)))
                      repeat (go_quiet (first | (go_at_call 10; (with_reducible refine (wide_Do.calls 7 4 1 1 t165 t166 _ A13.out).mono ?_); rintro e w' ⟨rfl, ⟨nd, rfl⟩⟩; (try first | exact ⟨rfl, _, World.drewN_drewN _ _ _⟩ | exact ⟨rfl, _, Eq.trans (World.drewN_drewN _ _ _) (congrArg (World.drewN _) (Nat.add_assoc _ _ _))⟩)) | (go_at_call 10; (with_reducible refine (wide_Do.calls 16 8 1 1 t167 t168 _ A14.out).mono ?_); rintro e w' ⟨rfl, ⟨nd, rfl⟩⟩; (try first | exact ⟨rfl, _, World.drewN_drewN _ _ _⟩ | exact ⟨rfl, _, Eq.trans (World.drewN_drewN _ _ _) (congrArg (World.drewN _) (Nat.add_assoc _ _ _))⟩)) | (go_at_call 10; (with_reducible refine (wide_Do.calls 0 9 1 1 t169 t170 _ A15.out).mono ?_); rintro e w' ⟨rfl, ⟨nd, rfl⟩⟩; (try first | exact ⟨rfl, _, World.drewN_drewN _ _ _⟩ | exact ⟨rfl, _, Eq.trans (World.drewN_drewN _ _ _) (congrArg (World.drewN _) (Nat.add_assoc _ _ _))⟩)) | (go_at_call 17; (with_reducible refine (wide_Signed.calls 1 1 t171 _ A19.out).mono ?_); rintro e w' ⟨rfl, ⟨nd, rfl⟩⟩; (try first | exact ⟨rfl, _, World.drewN_drewN _ _ _⟩ | exact ⟨rfl, _, Eq.trans (World.drewN_drewN _ _ _) (congrArg (World.drewN _) (Nat.add_assoc _ _ _))⟩)) | (go_at_call 17; (with_reducible refine (wide_Signed.calls 16 32768 t172 _ A21.out).mono ?_); rintro e w' ⟨rfl, ⟨nd, rfl⟩⟩; (try first | exact ⟨rfl, _, World.drewN_drewN _ _ _⟩ | exact ⟨rfl, _, Eq.trans (World.drewN_drewN _ _ _) (congrArg (World.drewN _) (Nat.add_assoc _ _ _))⟩)) | (go_at_call 18; (with_reducible refine (wide_Of.calls 1 6 t173 _ A23.out).mono ?_); rintro e w' ⟨rfl, ⟨nd, rfl⟩⟩; (try first | exact ⟨rfl, _, World.drewN_drewN _ _ _⟩ | exact ⟨rfl, _, Eq.trans (World.drewN_drewN _ _ _) (congrArg (World.drewN _) (Nat.add_assoc _ _ _))⟩))); try go_wp2_with (first | (go_at_call 10; (with_reducible refine (wide_Do.calls 7 4 1 1 t165 t166 _ A13.out).mono ?_); rintro e w' ⟨rfl, ⟨nd, rfl⟩⟩; (try first | exact ⟨rfl, _, World.drewN_drewN _ _ _⟩ | exact ⟨rfl, _, Eq.trans (World.drewN_drewN _ _ _) (congrArg (World.drewN _) (Nat.add_assoc _ _ _))⟩)) | (go_at_call 10; (with_reducible refine (wide_Do.calls 16 8 1 1 t167 t168 _ A14.out).mono ?_); rintro e w' ⟨rfl, ⟨nd, rfl⟩⟩; (try first | exact ⟨rfl, _, World.drewN_drewN _ _ _⟩ | exact ⟨rfl, _, Eq.trans (World.drewN_drewN _ _ _) (congrArg (World.drewN _) (Nat.add_assoc _ _ _))⟩)) | (go_at_call 10; (with_reducible refine (wide_Do.calls 0 9 1 1 t169 t170 _ A15.out).mono ?_); rintro e w' ⟨rfl, ⟨nd, rfl⟩⟩; (try first | exact ⟨rfl, _, World.drewN_drewN _ _ _⟩ | exact ⟨rfl, _, Eq.trans (World.drewN_drewN _ _ _) (congrArg (World.drewN _) (Nat.add_assoc _ _ _))⟩)) | (go_at_call 17; (with_reducible refine (wide_Signed.calls 1 1 t171 _ A19.out).mono ?_); rintro e w' ⟨rfl, ⟨nd, rfl⟩⟩; (try first | exact ⟨rfl, _, World.drewN_drewN _ _ _⟩ | exact ⟨rfl, _, Eq.trans (World.drewN_drewN _ _ _) (congrArg (World.drewN _) (Nat.add_assoc _ _ _))⟩)) | (go_at_call 17; (with_reducible refine (wide_Signed.calls 16 32768 t172 _ A21.out).mono ?_); rintro e w' ⟨rfl, ⟨nd, rfl⟩⟩; (try first | exact ⟨rfl, _, World.drewN_drewN _ _ _⟩ | exact ⟨rfl, _, Eq.trans (World.drewN_drewN _ _ _) (congrArg (World.drewN _) (Nat.add_assoc _ _ _))⟩)) | (go_at_call 18; (with_reducible refine (wide_Of.calls 1 6 t173 _ A23.out).mono ?_); rintro e w' ⟨rfl, ⟨nd, rfl⟩⟩; (try first | exact ⟨rfl, _, World.drewN_drewN _ _ _⟩ | exact ⟨rfl, _, Eq.trans (World.drewN_drewN _ _ _) (congrArg (World.drewN _) (Nat.add_assoc _ _ _))⟩))))
                      go_ret
                      exact ⟨by first | rfl | (simp [errW_none, errW_some] <;> rfl) | (simp [*, errW_none, errW_some] <;> rfl), by repeat (first | (with_reducible first | exact HB.out | apply below_alloc | apply pw_below_drewN | apply below_drew1) | exact HB.out)⟩
                  · rw [if_neg c22] at H
                    have c22b0 : (t172 == (-32768)) = false := beq_eq_false_iff_ne.mpr c22
                    have c22b1 : (t172 != (-32768)) = true := bne_iff_ne.mpr c22
                    obtain rfl := Option.some.inj H
                    obtain ⟨Ao34, co34, eo34⟩ := Kd.R_slice HO_1.out
                    subst eo34
                    go_wp2_with (first | (go_at_call 10; (with_reducible refine (wide_Do.calls 7 4 1 1 t165 t166 _ A13.out).mono ?_); rintro e w' ⟨rfl, ⟨nd, rfl⟩⟩; (try first | exact ⟨rfl, _, World.drewN_drewN _ _ _⟩ | exact ⟨rfl, _, Eq.trans (World.drewN_drewN _ _ _) (congrArg (World.drewN _) (Nat.add_assoc _ _ _))⟩)) | (go_at_call 10; (with_reducible refine (wide_Do.calls 16 8 1 1 t167 t168 _ A14.out).mono ?_); rintro e w' ⟨rfl, ⟨nd, rfl⟩⟩; (try first | exact ⟨rfl, _, World.drewN_drewN _ _ _⟩ | exact ⟨rfl, _, Eq.trans (World.drewN_drewN _ _ _) (congrArg (World.drewN _) (Nat.add_assoc _ _ _))⟩)) | (go_at_call 10; (with_reducible refine (wide_Do.calls 0 9 1 1 t169 t170 _ A15.out).mono ?_); rintro e w' ⟨rfl, ⟨nd, rfl⟩⟩; (try first | exact ⟨rfl, _, World.drewN_drewN _ _ _⟩ | exact ⟨rfl, _, Eq.trans (World.drewN_drewN _ _ _) (congrArg (World.drewN _) (Nat.add_assoc _ _ _))⟩)) | (go_at_call 17; (with_reducible refine (wide_Signed.calls 1 1 t171 _ A19.out).mono ?_); rintro e w' ⟨rfl, ⟨nd, rfl⟩⟩; (try first | exact ⟨rfl, _, World.drewN_drewN _ _ _⟩ | exact ⟨rfl, _, Eq.trans (World.drewN_drewN _ _ _) (congrArg (World.drewN _) (Nat.add_assoc _ _ _))⟩)) | (go_at_call 17; (with_reducible refine (wide_Signed.calls 16 32768 t172 _ A21.out).mono ?_); rintro e w' ⟨rfl, ⟨nd, rfl⟩⟩; (try first | exact ⟨rfl, _, World.drewN_drewN _ _ _⟩ | exact ⟨rfl, _, Eq.trans (World.drewN_drewN _ _ _) (congrArg (World.drewN _) (Nat.add_assoc _ _ _))⟩)))
                    repeat (go_quiet (first | (go_at_call 10; (with_reducible refine (wide_Do.calls 7 4 1 1 t165 t166 _ A13.out).mono ?_); rintro e w' ⟨rfl, ⟨nd, rfl⟩⟩; (try first | exact ⟨rfl, _, World.drewN_drewN _ _ _⟩ | exact ⟨rfl, _, Eq.trans (World.drewN_drewN _ _ _) (congrArg (World.drewN _) (Nat.add_assoc _ _ _))⟩)) | (go_at_call 10; (with_reducible refine (wide_Do.calls 16 8 1 1 t167 t168 _ A14.out).mono ?_); rintro e w' ⟨rfl, ⟨nd, rfl⟩⟩; (try first | exact ⟨rfl, _, World.drewN_drewN _ _ _⟩ | exact ⟨rfl, _, Eq.trans (World.drewN_drewN _ _ _) (congrArg (World.drewN _) (Nat.add_assoc _ _ _))⟩)) | (go_at_call 10; (with_reducible refine (wide_Do.calls 0 9 1 1 t169 t170 _ A15.out).mono ?_); rintro e w' ⟨rfl, ⟨nd, rfl⟩⟩; (try first | exact ⟨rfl, _, World.drewN_drewN _ _ _⟩ | exact ⟨rfl, _, Eq.trans (World.drewN_drewN _ _ _) (congrArg (World.drewN _) (Nat.add_assoc _ _ _))⟩)) | (go_at_call 17; (with_reducible refine (wide_Signed.calls 1 1 t171 _ A19.out).mono ?_); rintro e w' ⟨rfl, ⟨nd, rfl⟩⟩; (try first | exact ⟨rfl, _, World.drewN_drewN _ _ _⟩ | exact ⟨rfl, _, Eq.trans (World.drewN_drewN _ _ _) (congrArg (World.drewN _) (Nat.add_assoc _ _ _))⟩)) | (go_at_call 17; (with_reducible refine (wide_Signed.calls 16 32768 t172 _ A21.out).mono ?_); rintro e w' ⟨rfl, ⟨nd, rfl⟩⟩; (try first | exact ⟨rfl, _, World.drewN_drewN _ _ _⟩ | exact ⟨rfl, _, Eq.trans (World.drewN_drewN _ _ _) (congrArg (World.drewN _) (Nat.add_assoc _ _ _))⟩))); try go_wp2_with (first | (go_at_call 10; (with_reducible refine (wide_Do.calls 7 4 1 1 t165 t166 _ A13.out).mono ?_); rintro e w' ⟨rfl, ⟨nd, rfl⟩⟩; (try first | exact ⟨rfl, _, World.drewN_drewN _ _ _⟩ | exact ⟨rfl, _, Eq.trans (World.drewN_drewN _ _ _) (congrArg (World.drewN _) (Nat.add_assoc _ _ _))⟩)) | (go_at_call 10; (with_reducible refine (wide_Do.calls 16 8 1 1 t167 t168 _ A14.out).mono ?_); rintro e w' ⟨rfl, ⟨nd, rfl⟩⟩; (try first | exact ⟨rfl, _, World.drewN_drewN _ _ _⟩ | exact ⟨rfl, _, Eq.trans (World.drewN_drewN _ _ _) (congrArg (World.drewN _) (Nat.add_assoc _ _ _))⟩)) | (go_at_call 10; (with_reducible refine (wide_Do.calls 0 9 1 1 t169 t170 _ A15.out).mono ?_); rintro e w' ⟨rfl, ⟨nd, rfl⟩⟩; (try first | exact ⟨rfl, _, World.drewN_drewN _ _ _⟩ | exact ⟨rfl, _, Eq.trans (World.drewN_drewN _ _ _) (congrArg (World.drewN _) (Nat.add_assoc _ _ _))⟩)) | (go_at_call 17; (with_reducible refine (wide_Signed.calls 1 1 t171 _ A19.out).mono ?_); rintro e w' ⟨rfl, ⟨nd, rfl⟩⟩; (try first | exact ⟨rfl, _, World.drewN_drewN _ _ _⟩ | exact ⟨rfl, _, Eq.trans (World.drewN_drewN _ _ _) (congrArg (World.drewN _) (Nat.add_assoc _ _ _))⟩)) | (go_at_call 17; (with_reducible refine (wide_Signed.calls 16 32768 t172 _ A21.out).mono ?_); rintro e w' ⟨rfl, ⟨nd, rfl⟩⟩; (try first | exact ⟨rfl, _, World.drewN_drewN _ _ _⟩ | exact ⟨rfl, _, Eq.trans (World.drewN_drewN _ _ _) (congrArg (World.drewN _) (Nat.add_assoc _ _ _))⟩))))
                    go_ret
                    exact ⟨by first | rfl | (simp [errW_none, errW_some] <;> rfl) | (simp [*, errW_none, errW_some] <;> rfl), by repeat (first | (with_reducible first | exact HB.out | apply below_alloc | apply pw_below_drewN | apply below_drew1) | exact HB.out)⟩
                · rw [if_neg c20] at H
                  have c20b0 : (t171 == (-1)) = false := beq_eq_false_iff_ne.mpr c20
                  have c20b1 : (t171 != (-1)) = true := bne_iff_ne.mpr c20
                  obtain rfl := Option.some.inj H
                  obtain ⟨Ao35, co35, eo35⟩ := Kd.R_slice HO_1.out
                  subst eo35
                  go_wp2_with (first | (go_at_call 10; (with_reducible refine (wide_Do.calls 7 4 1 1 t165 t166 _ A13.out).mono ?_); rintro e w' ⟨rfl, ⟨nd, rfl⟩⟩; (try first | exact ⟨rfl, _, World.drewN_drewN _ _ _⟩ | exact ⟨rfl, _, Eq.trans (World.drewN_drewN _ _ _) (congrArg (World.drewN _) (Nat.add_assoc _ _ _))⟩)) | (go_at_call 10; (with_reducible refine (wide_Do.calls 16 8 1 1 t167 t168 _ A14.out).mono ?_); rintro e w' ⟨rfl, ⟨nd, rfl⟩⟩; (try first | exact ⟨rfl, _, World.drewN_drewN _ _ _⟩ | exact ⟨rfl, _, Eq.trans (World.drewN_drewN _ _ _) (congrArg (World.drewN _) (Nat.add_assoc _ _ _))⟩)) | (go_at_call 10; (with_reducible refine (wide_Do.calls 0 9 1 1 t169 t170 _ A15.out).mono ?_); rintro e w' ⟨rfl, ⟨nd, rfl⟩⟩; (try first | exact ⟨rfl, _, World.drewN_drewN _ _ _⟩ | exact ⟨rfl, _, Eq.trans (World.drewN_drewN _ _ _) (congrArg (World.drewN _) (Nat.add_assoc _ _ _))⟩)) | (go_at_call 17; (with_reducible refine (wide_Signed.calls 1 1 t171 _ A19.out).mono ?_); rintro e w' ⟨rfl, ⟨nd, rfl⟩⟩; (try first | exact ⟨rfl, _, World.drewN_drewN _ _ _⟩ | exact ⟨rfl, _, Eq.trans (World.drewN_drewN _ _ _) (congrArg (World.drewN _) (Nat.add_assoc _ _ _))⟩)))
                  repeat (go_quiet (first | (go_at_call 10; (with_reducible refine (wide_Do.calls 7 4 1 1 t165 t166 _ A13.out).mono ?_); rintro e w' ⟨rfl, ⟨nd, rfl⟩⟩; (try first | exact ⟨rfl, _, World.drewN_drewN _ _ _⟩ | exact ⟨rfl, _, Eq.trans (World.drewN_drewN _ _ _) (congrArg (World.drewN _) (Nat.add_assoc _ _ _))⟩)) | (go_at_call 10; (with_reducible refine (wide_Do.calls 16 8 1 1 t167 t168 _ A14.out).mono ?_); rintro e w' ⟨rfl, ⟨nd, rfl⟩⟩; (try first | exact ⟨rfl, _, World.drewN_drewN _ _ _⟩ | exact ⟨rfl, _, Eq.trans (World.drewN_drewN _ _ _) (congrArg (World.drewN _) (Nat.add_assoc _ _ _))⟩)) | (go_at_call 10; (with_reducible refine (wide_Do.calls 0 9 1 1 t169 t170 _ A15.out).mono ?_); rintro e w' ⟨rfl, ⟨nd, rfl⟩⟩; (try first | exact ⟨rfl, _, World.drewN_drewN _ _ _⟩ | exact ⟨rfl, _, Eq.trans (World.drewN_drewN _ _ _) (congrArg (World.drewN _) (Nat.add_assoc _ _ _))⟩)) | (go_at_call 17; (with_reducible refine (wide_Signed.calls 1 1 t171 _ A19.out).mono ?_); rintro e w' ⟨rfl, ⟨nd, rfl⟩⟩; (try first | exact ⟨rfl, _, World.drewN_drewN _ _ _⟩ | exact ⟨rfl, _, Eq.trans (World.drewN_drewN _ _ _) (congrArg (World.drewN _) (Nat.add_assoc _ _ _))⟩))); try go_wp2_with (first | (go_at_call 10; (with_reducible refine (wide_Do.calls 7 4 1 1 t165 t166 _ A13.out).mono ?_); rintro e w' ⟨rfl, ⟨nd, rfl⟩⟩; (try first | exact ⟨rfl, _, World.drewN_drewN _ _ _⟩ | exact ⟨rfl, _, Eq.trans (World.drewN_drewN _ _ _) (congrArg (World.drewN _) (Nat.add_assoc _ _ _))⟩)) | (go_at_call 10; (with_reducible refine (wide_Do.calls 16 8 1 1 t167 t168 _ A14.out).mono ?_); rintro e w' ⟨rfl, ⟨nd, rfl⟩⟩; (try first | exact ⟨rfl, _, World.drewN_drewN _ _ _⟩ | exact ⟨rfl, _, Eq.trans (World.drewN_drewN _ _ _) (congrArg (World.drewN _) (Nat.add_assoc _ _ _))⟩)) | (go_at_call 10; (with_reducible refine (wide_Do.calls 0 9 1 1 t169 t170 _ A15.out).mono ?_); rintro e w' ⟨rfl, ⟨nd, rfl⟩⟩; (try first | exact ⟨rfl, _, World.drewN_drewN _ _ _⟩ | exact ⟨rfl, _, Eq.trans (World.drewN_drewN _ _ _) (congrArg (World.drewN _) (Nat.add_assoc _ _ _))⟩)) | (go_at_call 17; (with_reducible refine (wide_Signed.calls 1 1 t171 _ A19.out).mono ?_); rintro e w' ⟨rfl, ⟨nd, rfl⟩⟩; (try first | exact ⟨rfl, _, World.drewN_drewN _ _ _⟩ | exact ⟨rfl, _, Eq.trans (World.drewN_drewN _ _ _) (congrArg (World.drewN _) (Nat.add_assoc _ _ _))⟩))))
                  go_ret
                  exact ⟨by first | rfl | (simp [errW_none, errW_some] <;> rfl) | (simp [*, errW_none, errW_some] <;> rfl), by repeat (first | (with_reducible first | exact HB.out | apply below_alloc | apply pw_below_drewN | apply below_drew1) | exact HB.out)⟩
              · rw [if_neg c18] at H
                have c18b0 : (t170 == 2) = false := beq_eq_false_iff_ne.mpr c18
                have c18b1 : (t170 != 2) = true := bne_iff_ne.mpr c18
                obtain rfl := Option.some.inj H
                obtain ⟨Ao36, co36, eo36⟩ := Kd.R_slice HO_1.out
                subst eo36
                go_wp2_with (first | (go_at_call 10; (with_reducible refine (wide_Do.calls 7 4 1 1 t165 t166 _ A13.out).mono ?_); rintro e w' ⟨rfl, ⟨nd, rfl⟩⟩; (try first | exact ⟨rfl, _, World.drewN_drewN _ _ _⟩ | exact ⟨rfl, _, Eq.trans (World.drewN_drewN _ _ _) (congrArg (World.drewN _) (Nat.add_assoc _ _ _))⟩)) | (go_at_call 10; (with_reducible refine (wide_Do.calls 16 8 1 1 t167 t168 _ A14.out).mono ?_); rintro e w' ⟨rfl, ⟨nd, rfl⟩⟩; (try first | exact ⟨rfl, _, World.drewN_drewN _ _ _⟩ | exact ⟨rfl, _, Eq.trans (World.drewN_drewN _ _ _) (congrArg (World.drewN _) (Nat.add_assoc _ _ _))⟩)) | (go_at_call 10; (with_reducible refine (wide_Do.calls 0 9 1 1 t169 t170 _ A15.out).mono ?_); rintro e w' ⟨rfl, ⟨nd, rfl⟩⟩; (try first | exact ⟨rfl, _, World.drewN_drewN _ _ _⟩ | exact ⟨rfl, _, Eq.trans (World.drewN_drewN _ _ _) (congrArg (World.drewN _) (Nat.add_assoc _ _ _))⟩)))
                repeat (go_quiet (first | (go_at_call 10; (with_reducible refine (wide_Do.calls 7 4 1 1 t165 t166 _ A13.out).mono ?_); rintro e w' ⟨rfl, ⟨nd, rfl⟩⟩; (try first | exact ⟨rfl, _, World.drewN_drewN _ _ _⟩ | exact ⟨rfl, _, Eq.trans (World.drewN_drewN _ _ _) (congrArg (World.drewN _) (Nat.add_assoc _ _ _))⟩)) | (go_at_call 10; (with_reducible refine (wide_Do.calls 16 8 1 1 t167 t168 _ A14.out).mono ?_); rintro e w' ⟨rfl, ⟨nd, rfl⟩⟩; (try first | exact ⟨rfl, _, World.drewN_drewN _ _ _⟩ | exact ⟨rfl, _, Eq.trans (World.drewN_drewN _ _ _) (congrArg (World.drewN _) (Nat.add_assoc _ _ _))⟩)) | (go_at_call 10; (with_reducible refine (wide_Do.calls 0 9 1 1 t169 t170 _ A15.out).mono ?_); rintro e w' ⟨rfl, ⟨nd, rfl⟩⟩; (try first | exact ⟨rfl, _, World.drewN_drewN _ _ _⟩ | exact ⟨rfl, _, Eq.trans (World.drewN_drewN _ _ _) (congrArg (World.drewN _) (Nat.add_assoc _ _ _))⟩))); try go_wp2_with (first | (go_at_call 10; (with_reducible refine (wide_Do.calls 7 4 1 1 t165 t166 _ A13.out).mono ?_); rintro e w' ⟨rfl, ⟨nd, rfl⟩⟩; (try first | exact ⟨rfl, _, World.drewN_drewN _ _ _⟩ | exact ⟨rfl, _, Eq.trans (World.drewN_drewN _ _ _) (congrArg (World.drewN _) (Nat.add_assoc _ _ _))⟩)) | (go_at_call 10; (with_reducible refine (wide_Do.calls 16 8 1 1 t167 t168 _ A14.out).mono ?_); rintro e w' ⟨rfl, ⟨nd, rfl⟩⟩; (try first | exact ⟨rfl, _, World.drewN_drewN _ _ _⟩ | exact ⟨rfl, _, Eq.trans (World.drewN_drewN _ _ _) (congrArg (World.drewN _) (Nat.add_assoc _ _ _))⟩)) | (go_at_call 10; (with_reducible refine (wide_Do.calls 0 9 1 1 t169 t170 _ A15.out).mono ?_); rintro e w' ⟨rfl, ⟨nd, rfl⟩⟩; (try first | exact ⟨rfl, _, World.drewN_drewN _ _ _⟩ | exact ⟨rfl, _, Eq.trans (World.drewN_drewN _ _ _) (congrArg (World.drewN _) (Nat.add_assoc _ _ _))⟩))))
                go_ret
                exact ⟨by first | rfl | (simp [errW_none, errW_some] <;> rfl) | (simp [*, errW_none, errW_some] <;> rfl), by repeat (first | (with_reducible first | exact HB.out | apply below_alloc | apply pw_below_drewN | apply below_drew1) | exact HB.out)⟩
            · rw [if_neg c17] at H
              have c17b0 : (t168 == 5) = false := beq_eq_false_iff_ne.mpr c17
              have c17b1 : (t168 != 5) = true := bne_iff_ne.mpr c17
              obtain rfl := Option.some.inj H
              obtain ⟨Ao37, co37, eo37⟩ := Kd.R_slice HO_1.out
              subst eo37
              go_wp2_with (first | (go_at_call 10; (with_reducible refine (wide_Do.calls 7 4 1 1 t165 t166 _ A13.out).mono ?_); rintro e w' ⟨rfl, ⟨nd, rfl⟩⟩; (try first | exact ⟨rfl, _, World.drewN_drewN _ _ _⟩ | exact ⟨rfl, _, Eq.trans (World.drewN_drewN _ _ _) (congrArg (World.drewN _) (Nat.add_assoc _ _ _))⟩)) | (go_at_call 10; (with_reducible refine (wide_Do.calls 16 8 1 1 t167 t168 _ A14.out).mono ?_); rintro e w' ⟨rfl, ⟨nd, rfl⟩⟩; (try first | exact ⟨rfl, _, World.drewN_drewN _ _ _⟩ | exact ⟨rfl, _, Eq.trans (World.drewN_drewN _ _ _) (congrArg (World.drewN _) (Nat.add_assoc _ _ _))⟩)) | (go_at_call 10; (with_reducible refine (wide_Do.calls 0 9 1 1 t169 t170 _ A15.out).mono ?_); rintro e w' ⟨rfl, ⟨nd, rfl⟩⟩; (try first | exact ⟨rfl, _, World.drewN_drewN _ _ _⟩ | exact ⟨rfl, _, Eq.trans (World.drewN_drewN _ _ _) (congrArg (World.drewN _) (Nat.add_assoc _ _ _))⟩)))
              repeat (go_quiet (first | (go_at_call 10; (with_reducible refine (wide_Do.calls 7 4 1 1 t165 t166 _ A13.out).mono ?_); rintro e w' ⟨rfl, ⟨nd, rfl⟩⟩; (try first | exact ⟨rfl, _, World.drewN_drewN _ _ _⟩ | exact ⟨rfl, _, Eq.trans (World.drewN_drewN _ _ _) (congrArg (World.drewN _) (Nat.add_assoc _ _ _))⟩)) | (go_at_call 10; (with_reducible refine (wide_Do.calls 16 8 1 1 t167 t168 _ A14.out).mono ?_); rintro e w' ⟨rfl, ⟨nd, rfl⟩⟩; (try first | exact ⟨rfl, _, World.drewN_drewN _ _ _⟩ | exact ⟨rfl, _, Eq.trans (World.drewN_drewN _ _ _) (congrArg (World.drewN _) (Nat.add_assoc _ _ _))⟩)) | (go_at_call 10; (with_reducible refine (wide_Do.calls 0 9 1 1 t169 t170 _ A15.out).mono ?_); rintro e w' ⟨rfl, ⟨nd, rfl⟩⟩; (try first | exact ⟨rfl, _, World.drewN_drewN _ _ _⟩ | exact ⟨rfl, _, Eq.trans (World.drewN_drewN _ _ _) (congrArg (World.drewN _) (Nat.add_assoc _ _ _))⟩))); try go_wp2_with (first | (go_at_call 10; (with_reducible refine (wide_Do.calls 7 4 1 1 t165 t166 _ A13.out).mono ?_); rintro e w' ⟨rfl, ⟨nd, rfl⟩⟩; (try first | exact ⟨rfl, _, World.drewN_drewN _ _ _⟩ | exact ⟨rfl, _, Eq.trans (World.drewN_drewN _ _ _) (congrArg (World.drewN _) (Nat.add_assoc _ _ _))⟩)) | (go_at_call 10; (with_reducible refine (wide_Do.calls 16 8 1 1 t167 t168 _ A14.out).mono ?_); rintro e w' ⟨rfl, ⟨nd, rfl⟩⟩; (try first | exact ⟨rfl, _, World.drewN_drewN _ _ _⟩ | exact ⟨rfl, _, Eq.trans (World.drewN_drewN _ _ _) (congrArg (World.drewN _) (Nat.add_assoc _ _ _))⟩)) | (go_at_call 10; (with_reducible refine (wide_Do.calls 0 9 1 1 t169 t170 _ A15.out).mono ?_); rintro e w' ⟨rfl, ⟨nd, rfl⟩⟩; (try first | exact ⟨rfl, _, World.drewN_drewN _ _ _⟩ | exact ⟨rfl, _, Eq.trans (World.drewN_drewN _ _ _) (congrArg (World.drewN _) (Nat.add_assoc _ _ _))⟩))))
              go_ret
              exact ⟨by first | rfl | (simp [errW_none, errW_some] <;> rfl) | (simp [*, errW_none, errW_some] <;> rfl), by repeat (first | (with_reducible first | exact HB.out | apply below_alloc | apply pw_below_drewN | apply below_drew1) | exact HB.out)⟩
          · rw [if_neg c16] at H
            have c16b0 : (t166 == 2) = false := beq_eq_false_iff_ne.mpr c16
            have c16b1 : (t166 != 2) = true := bne_iff_ne.mpr c16
            obtain rfl := Option.some.inj H
            obtain ⟨Ao38, co38, eo38⟩ := Kd.R_slice HO_1.out
            subst eo38
            go_wp2_with (first | (go_at_call 10; (with_reducible refine (wide_Do.calls 7 4 1 1 t165 t166 _ A13.out).mono ?_); rintro e w' ⟨rfl, ⟨nd, rfl⟩⟩; (try first | exact ⟨rfl, _, World.drewN_drewN _ _ _⟩ | exact ⟨rfl, _, Eq.trans (World.drewN_drewN _ _ _) (congrArg (World.drewN _) (Nat.add_assoc _ _ _))⟩)) | (go_at_call 10; (with_reducible refine (wide_Do.calls 16 8 1 1 t167 t168 _ A14.out).mono ?_); rintro e w' ⟨rfl, ⟨nd, rfl⟩⟩; (try first | exact ⟨rfl, _, World.drewN_drewN _ _ _⟩ | exact ⟨rfl, _, Eq.trans (World.drewN_drewN _ _ _) (congrArg (World.drewN _) (Nat.add_assoc _ _ _))⟩)) | (go_at_call 10; (with_reducible refine (wide_Do.calls 0 9 1 1 t169 t170 _ A15.out).mono ?_); rintro e w' ⟨rfl, ⟨nd, rfl⟩⟩; (try first | exact ⟨rfl, _, World.drewN_drewN _ _ _⟩ | exact ⟨rfl, _, Eq.trans (World.drewN_drewN _ _ _) (congrArg (World.drewN _) (Nat.add_assoc _ _ _))⟩)))
            repeat (go_quiet (first | (go_at_call 10; (with_reducible refine (wide_Do.calls 7 4 1 1 t165 t166 _ A13.out).mono ?_); rintro e w' ⟨rfl, ⟨nd, rfl⟩⟩; (try first | exact ⟨rfl, _, World.drewN_drewN _ _ _⟩ | exact ⟨rfl, _, Eq.trans (World.drewN_drewN _ _ _) (congrArg (World.drewN _) (Nat.add_assoc _ _ _))⟩)) | (go_at_call 10; (with_reducible refine (wide_Do.calls 16 8 1 1 t167 t168 _ A14.out).mono ?_); rintro e w' ⟨rfl, ⟨nd, rfl⟩⟩; (try first | exact ⟨rfl, _, World.drewN_drewN _ _ _⟩ | exact ⟨rfl, _, Eq.trans (World.drewN_drewN _ _ _) (congrArg (World.drewN _) (Nat.add_assoc _ _ _))⟩)) | (go_at_call 10; (with_reducible refine (wide_Do.calls 0 9 1 1 t169 t170 _ A15.out).mono ?_); rintro e w' ⟨rfl, ⟨nd, rfl⟩⟩; (try first | exact ⟨rfl, _, World.drewN_drewN _ _ _⟩ | exact ⟨rfl, _, Eq.trans (World.drewN_drewN _ _ _) (congrArg (World.drewN _) (Nat.add_assoc _ _ _))⟩))); try go_wp2_with (first | (go_at_call 10; (with_reducible refine (wide_Do.calls 7 4 1 1 t165 t166 _ A13.out).mono ?_); rintro e w' ⟨rfl, ⟨nd, rfl⟩⟩; (try first | exact ⟨rfl, _, World.drewN_drewN _ _ _⟩ | exact ⟨rfl, _, Eq.trans (World.drewN_drewN _ _ _) (congrArg (World.drewN _) (Nat.add_assoc _ _ _))⟩)) | (go_at_call 10; (with_reducible refine (wide_Do.calls 16 8 1 1 t167 t168 _ A14.out).mono ?_); rintro e w' ⟨rfl, ⟨nd, rfl⟩⟩; (try first | exact ⟨rfl, _, World.drewN_drewN _ _ _⟩ | exact ⟨rfl, _, Eq.trans (World.drewN_drewN _ _ _) (congrArg (World.drewN _) (Nat.add_assoc _ _ _))⟩)) | (go_at_call 10; (with_reducible refine (wide_Do.calls 0 9 1 1 t169 t170 _ A15.out).mono ?_); rintro e w' ⟨rfl, ⟨nd, rfl⟩⟩; (try first | exact ⟨rfl, _, World.drewN_drewN _ _ _⟩ | exact ⟨rfl, _, Eq.trans (World.drewN_drewN _ _ _) (congrArg (World.drewN _) (Nat.add_assoc _ _ _))⟩))))
            go_ret
            exact ⟨by first | rfl | (simp [errW_none, errW_some] <;> rfl) | (simp [*, errW_none, errW_some] <;> rfl), by repeat (first | (with_reducible first | exact HB.out | apply below_alloc | apply pw_below_drewN | apply below_drew1) | exact HB.out)⟩
  · replace c2 := Bool.eq_false_iff.mpr c2
    subst c2
    have H1 : (some false) = some r := by rw [if_neg (show ¬ (false = true) by decide)] at H; exact H
    clear H
    have H := H1
    clear H1
    obtain rfl := Option.some.inj H
    go_enter Try.func4, Try.ntmps4
    go_wp2_with (first | (go_at_call 9; (with_reducible refine (crossroadslaw1_awake.calls  false _ A1.out).mono ?_); rintro e w' ⟨rfl, ⟨nd, rfl⟩⟩; (try first | exact ⟨rfl, _, World.drewN_drewN _ _ _⟩ | exact ⟨rfl, _, Eq.trans (World.drewN_drewN _ _ _) (congrArg (World.drewN _) (Nat.add_assoc _ _ _))⟩)))
    repeat (go_quiet (first | (go_at_call 9; (with_reducible refine (crossroadslaw1_awake.calls  false _ A1.out).mono ?_); rintro e w' ⟨rfl, ⟨nd, rfl⟩⟩; (try first | exact ⟨rfl, _, World.drewN_drewN _ _ _⟩ | exact ⟨rfl, _, Eq.trans (World.drewN_drewN _ _ _) (congrArg (World.drewN _) (Nat.add_assoc _ _ _))⟩))); try go_wp2_with (first | (go_at_call 9; (with_reducible refine (crossroadslaw1_awake.calls  false _ A1.out).mono ?_); rintro e w' ⟨rfl, ⟨nd, rfl⟩⟩; (try first | exact ⟨rfl, _, World.drewN_drewN _ _ _⟩ | exact ⟨rfl, _, Eq.trans (World.drewN_drewN _ _ _) (congrArg (World.drewN _) (Nat.add_assoc _ _ _))⟩))))
    go_ret
    exact ⟨by first | rfl | (simp [errW_none, errW_some] <;> rfl) | (simp [*, errW_none, errW_some] <;> rfl), by repeat (first | (with_reducible first | exact HB.out | apply below_alloc | apply pw_below_drewN | apply below_drew1) | exact HB.out)⟩

/-- THE ONE PURE STATEMENT of crossroadslaw1_WideKnown. -/
def crossroadslaw1_WideKnown.Pure : Prop := ∃ k, crossroadslaw1_WideKnown.f k  = some true

-- NOT PRINTED: function 5 (crossroadslaw1_WideLaws)

/-! ### crossroadsref1_bit: function 21 -/
def crossroadsref1_bit.f (a0 : Bool) : Option (Int) := if a0 = true then (some 1) else (some 0)
set_option maxHeartbeats 8000000 in
set_option maxRecDepth 100000 in
theorem crossroadsref1_bit.calls (a0 : Bool) (r : Int) (w : World) (h : crossroadsref1_bit.f a0 = some r) :
    Calls Try.prog 21 #[.bool a0] w fun e w' => e = .returned (.int .u16 r) ∧ Drawn0 w w' := by
  have H : (if a0 = true then (some 1) else (some 0)) = some r := h
  clear h
  by_cases c2 : a0 = true
  · subst c2
    have H1 : (some 1) = some r := by rw [if_pos rfl] at H; exact H
    clear H
    have H := H1
    clear H1
    obtain rfl := Option.some.inj H
    go_enter Try.func21, Try.ntmps21
    go_wp2
    go_ret
    exact ⟨by first | rfl | (simp; done) | (simp [*]; done), by repeat (first | exact Drawn0.refl _ | apply Drawn0.step)⟩
  · replace c2 := Bool.eq_false_iff.mpr c2
    subst c2
    have H1 : (some 0) = some r := by rw [if_neg (show ¬ (false = true) by decide)] at H; exact H
    clear H
    have H := H1
    clear H1
    obtain rfl := Option.some.inj H
    go_enter Try.func21, Try.ntmps21
    go_wp2
    go_ret
    exact ⟨by first | rfl | (simp; done) | (simp [*]; done), by repeat (first | exact Drawn0.refl _ | apply Drawn0.step)⟩

/-! ### crossroadsref1_Do: function 11 -/
def crossroadsref1_Do.f (a0 : Int) (a1 : Int) (a2 : Int) (a3 : Int) : Option (Int × Int) := (crossroadsref1_May.f a1).bind fun t177 => (if t177 = true then ((crossroadsref1_Mask.f a1).bind fun t178 => (if a0 = 3 then (some (Go.bits .and .u16 (Go.bits .xor .u16 65535 a2) t178, 0)) else (if a0 = 4 then (some (Go.bits .and .u16 (Go.bits .and .u16 a2 a3) t178, 0)) else (if a0 = 5 then (some (Go.bits .and .u16 (Go.bits .or .u16 a2 a3) t178, 0)) else (if a0 = 6 then (some (Go.bits .and .u16 (Go.bits .xor .u16 a2 a3) t178, 0)) else (if a0 = 7 then (some (IntKind.u16.wrap (Go.bits .and .i64 (wrap64 ((wrap64 (Go.bits .and .u16 a2 t178)) + (wrap64 (Go.bits .and .u16 a3 t178)))) (wrap64 (t178))), 0)) else (if a0 = 8 then (some (IntKind.u16.wrap (Go.bits .and .i64 (wrap64 ((wrap64 (Go.bits .and .u16 a2 t178)) - (wrap64 (Go.bits .and .u16 a3 t178)))) (wrap64 (t178))), 0)) else (if a0 = 9 then (some (IntKind.u16.wrap (Go.bits .and .i64 (wrap64 ((wrap64 (Go.bits .and .u16 a2 t178)) * (wrap64 (Go.bits .and .u16 a3 t178)))) (wrap64 (t178))), 0)) else (if a0 = 10 then (if (wrap64 (Go.bits .and .u16 a3 t178)) = 0 then (some (t178, 0)) else (some (IntKind.u16.wrap (wrap64 (Int.tdiv (wrap64 (Go.bits .and .u16 a2 t178)) (wrap64 (Go.bits .and .u16 a3 t178)))), 0))) else (if a0 = 11 then (if (wrap64 (Go.bits .and .u16 a3 t178)) = 0 then (some (IntKind.u16.wrap (wrap64 (Go.bits .and .u16 a2 t178)), 0)) else (some (IntKind.u16.wrap (Int.tmod (wrap64 (Go.bits .and .u16 a2 t178)) (wrap64 (Go.bits .and .u16 a3 t178))), 0))) else (if a0 = 12 then (if (wrap64 (Go.bits .and .u16 a3 t178)) ≥ a1 then (some (0, 0)) else (if 0 ≤ (IntKind.u64.wrap (wrap64 (Go.bits .and .u16 a3 t178))) then (some (IntKind.u16.wrap (Go.bits .and .i64 (shl .i64 (wrap64 (Go.bits .and .u16 a2 t178)) (IntKind.u64.wrap (wrap64 (Go.bits .and .u16 a3 t178)))) (wrap64 (t178))), 0)) else (none))) else (if a0 = 13 then (if (wrap64 (Go.bits .and .u16 a3 t178)) ≥ a1 then (some (0, 0)) else (if 0 ≤ (IntKind.u64.wrap (wrap64 (Go.bits .and .u16 a3 t178))) then (some (IntKind.u16.wrap (shr .i64 (wrap64 (Go.bits .and .u16 a2 t178)) (IntKind.u64.wrap (wrap64 (Go.bits .and .u16 a3 t178)))), 0)) else (none))) else (if a0 = 14 then ((crossroadsref1_bit.f ((wrap64 (Go.bits .and .u16 a2 t178)) == (wrap64 (Go.bits .and .u16 a3 t178)))).bind fun t179 => (some (t179, 0))) else (if a0 = 15 then ((crossroadsref1_bit.f (decide ((wrap64 (Go.bits .and .u16 a2 t178)) < (wrap64 (Go.bits .and .u16 a3 t178))))).bind fun t180 => (some (t180, 0))) else (some (0, 5)))))))))))))))) else (some (0, 2)))
set_option maxHeartbeats 8000000 in
set_option maxRecDepth 100000 in
theorem crossroadsref1_Do.calls (a0 : Int) (a1 : Int) (a2 : Int) (a3 : Int) (r1 : Int) (r2 : Int) (w : World) (h : crossroadsref1_Do.f a0 a1 a2 a3 = some (r1, r2)) :
    Calls Try.prog 11 #[.int .i64 a0, .int .i64 a1, .int .u16 a2, .int .u16 a3] w fun e w' => e = .returned (.tuple #[.int .u16 r1, .int .i64 r2]) ∧ Drawn0 w w' := by
  have H : ((crossroadsref1_May.f a1).bind fun t177 => (if t177 = true then ((crossroadsref1_Mask.f a1).bind fun t178 => (if a0 = 3 then (some (Go.bits .and .u16 (Go.bits .xor .u16 65535 a2) t178, 0)) else (if a0 = 4 then (some (Go.bits .and .u16 (Go.bits .and .u16 a2 a3) t178, 0)) else (if a0 = 5 then (some (Go.bits .and .u16 (Go.bits .or .u16 a2 a3) t178, 0)) else (if a0 = 6 then (some (Go.bits .and .u16 (Go.bits .xor .u16 a2 a3) t178, 0)) else (if a0 = 7 then (some (IntKind.u16.wrap (Go.bits .and .i64 (wrap64 ((wrap64 (Go.bits .and .u16 a2 t178)) + (wrap64 (Go.bits .and .u16 a3 t178)))) (wrap64 (t178))), 0)) else (if a0 = 8 then (some (IntKind.u16.wrap (Go.bits .and .i64 (wrap64 ((wrap64 (Go.bits .and .u16 a2 t178)) - (wrap64 (Go.bits .and .u16 a3 t178)))) (wrap64 (t178))), 0)) else (if a0 = 9 then (some (IntKind.u16.wrap (Go.bits .and .i64 (wrap64 ((wrap64 (Go.bits .and .u16 a2 t178)) * (wrap64 (Go.bits .and .u16 a3 t178)))) (wrap64 (t178))), 0)) else (if a0 = 10 then (if (wrap64 (Go.bits .and .u16 a3 t178)) = 0 then (some (t178, 0)) else (some (IntKind.u16.wrap (wrap64 (Int.tdiv (wrap64 (Go.bits .and .u16 a2 t178)) (wrap64 (Go.bits .and .u16 a3 t178)))), 0))) else (if a0 = 11 then (if (wrap64 (Go.bits .and .u16 a3 t178)) = 0 then (some (IntKind.u16.wrap (wrap64 (Go.bits .and .u16 a2 t178)), 0)) else (some (IntKind.u16.wrap (Int.tmod (wrap64 (Go.bits .and .u16 a2 t178)) (wrap64 (Go.bits .and .u16 a3 t178))), 0))) else (if a0 = 12 then (if (wrap64 (Go.bits .and .u16 a3 t178)) ≥ a1 then (some (0, 0)) else (if 0 ≤ (IntKind.u64.wrap (wrap64 (Go.bits .and .u16 a3 t178))) then (some (IntKind.u16.wrap (Go.bits .and .i64 (shl .i64 (wrap64 (Go.bits .and .u16 a2 t178)) (IntKind.u64.wrap (wrap64 (Go.bits .and .u16 a3 t178)))) (wrap64 (t178))), 0)) else (none))) else (if a0 = 13 then (if (wrap64 (Go.bits .and .u16 a3 t178)) ≥ a1 then (some (0, 0)) else (if 0 ≤ (IntKind.u64.wrap (wrap64 (Go.bits .and .u16 a3 t178))) then (some (IntKind.u16.wrap (shr .i64 (wrap64 (Go.bits .and .u16 a2 t178)) (IntKind.u64.wrap (wrap64 (Go.bits .and .u16 a3 t178)))), 0)) else (none))) else (if a0 = 14 then ((crossroadsref1_bit.f ((wrap64 (Go.bits .and .u16 a2 t178)) == (wrap64 (Go.bits .and .u16 a3 t178)))).bind fun t179 => (some (t179, 0))) else (if a0 = 15 then ((crossroadsref1_bit.f (decide ((wrap64 (Go.bits .and .u16 a2 t178)) < (wrap64 (Go.bits .and .u16 a3 t178))))).bind fun t180 => (some (t180, 0))) else (some (0, 5)))))))))))))))) else (some (0, 2)))) = some (r1, r2) := h
  clear h
  replace H := Option.bind_eq_some_iff.mp H
  obtain ⟨t177, A50, H⟩ := H
  replace H : (if t177 = true then ((crossroadsref1_Mask.f a1).bind fun t178 => (if a0 = 3 then (some (Go.bits .and .u16 (Go.bits .xor .u16 65535 a2) t178, 0)) else (if a0 = 4 then (some (Go.bits .and .u16 (Go.bits .and .u16 a2 a3) t178, 0)) else (if a0 = 5 then (some (Go.bits .and .u16 (Go.bits .or .u16 a2 a3) t178, 0)) else (if a0 = 6 then (some (Go.bits .and .u16 (Go.bits .xor .u16 a2 a3) t178, 0)) else (if a0 = 7 then (some (IntKind.u16.wrap (Go.bits .and .i64 (wrap64 ((wrap64 (Go.bits .and .u16 a2 t178)) + (wrap64 (Go.bits .and .u16 a3 t178)))) (wrap64 (t178))), 0)) else (if a0 = 8 then (some (IntKind.u16.wrap (Go.bits .and .i64 (wrap64 ((wrap64 (Go.bits .and .u16 a2 t178)) - (wrap64 (Go.bits .and .u16 a3 t178)))) (wrap64 (t178))), 0)) else (if a0 = 9 then (some (IntKind.u16.wrap (Go.bits .and .i64 (wrap64 ((wrap64 (Go.bits .and .u16 a2 t178)) * (wrap64 (Go.bits .and .u16 a3 t178)))) (wrap64 (t178))), 0)) else (if a0 = 10 then (if (wrap64 (Go.bits .and .u16 a3 t178)) = 0 then (some (t178, 0)) else (some (IntKind.u16.wrap (wrap64 (Int.tdiv (wrap64 (Go.bits .and .u16 a2 t178)) (wrap64 (Go.bits .and .u16 a3 t178)))), 0))) else (if a0 = 11 then (if (wrap64 (Go.bits .and .u16 a3 t178)) = 0 then (some (IntKind.u16.wrap (wrap64 (Go.bits .and .u16 a2 t178)), 0)) else (some (IntKind.u16.wrap (Int.tmod (wrap64 (Go.bits .and .u16 a2 t178)) (wrap64 (Go.bits .and .u16 a3 t178))), 0))) else (if a0 = 12 then (if (wrap64 (Go.bits .and .u16 a3 t178)) ≥ a1 then (some (0, 0)) else (if 0 ≤ (IntKind.u64.wrap (wrap64 (Go.bits .and .u16 a3 t178))) then (some (IntKind.u16.wrap (Go.bits .and .i64 (shl .i64 (wrap64 (Go.bits .and .u16 a2 t178)) (IntKind.u64.wrap (wrap64 (Go.bits .and .u16 a3 t178)))) (wrap64 (t178))), 0)) else (none))) else (if a0 = 13 then (if (wrap64 (Go.bits .and .u16 a3 t178)) ≥ a1 then (some (0, 0)) else (if 0 ≤ (IntKind.u64.wrap (wrap64 (Go.bits .and .u16 a3 t178))) then (some (IntKind.u16.wrap (shr .i64 (wrap64 (Go.bits .and .u16 a2 t178)) (IntKind.u64.wrap (wrap64 (Go.bits .and .u16 a3 t178)))), 0)) else (none))) else (if a0 = 14 then ((crossroadsref1_bit.f ((wrap64 (Go.bits .and .u16 a2 t178)) == (wrap64 (Go.bits .and .u16 a3 t178)))).bind fun t179 => (some (t179, 0))) else (if a0 = 15 then ((crossroadsref1_bit.f (decide ((wrap64 (Go.bits .and .u16 a2 t178)) < (wrap64 (Go.bits .and .u16 a3 t178))))).bind fun t180 => (some (t180, 0))) else (some (0, 5)))))))))))))))) else (some (0, 2))) = some (r1, r2) := H
  have A5 := Aside0.mk A50
  clear A50
  by_cases c6 : t177 = true
  · subst c6
    have H1 : ((crossroadsref1_Mask.f a1).bind fun t178 => (if a0 = 3 then (some (Go.bits .and .u16 (Go.bits .xor .u16 65535 a2) t178, 0)) else (if a0 = 4 then (some (Go.bits .and .u16 (Go.bits .and .u16 a2 a3) t178, 0)) else (if a0 = 5 then (some (Go.bits .and .u16 (Go.bits .or .u16 a2 a3) t178, 0)) else (if a0 = 6 then (some (Go.bits .and .u16 (Go.bits .xor .u16 a2 a3) t178, 0)) else (if a0 = 7 then (some (IntKind.u16.wrap (Go.bits .and .i64 (wrap64 ((wrap64 (Go.bits .and .u16 a2 t178)) + (wrap64 (Go.bits .and .u16 a3 t178)))) (wrap64 (t178))), 0)) else (if a0 = 8 then (some (IntKind.u16.wrap (Go.bits .and .i64 (wrap64 ((wrap64 (Go.bits .and .u16 a2 t178)) - (wrap64 (Go.bits .and .u16 a3 t178)))) (wrap64 (t178))), 0)) else (if a0 = 9 then (some (IntKind.u16.wrap (Go.bits .and .i64 (wrap64 ((wrap64 (Go.bits .and .u16 a2 t178)) * (wrap64 (Go.bits .and .u16 a3 t178)))) (wrap64 (t178))), 0)) else (if a0 = 10 then (if (wrap64 (Go.bits .and .u16 a3 t178)) = 0 then (some (t178, 0)) else (some (IntKind.u16.wrap (wrap64 (Int.tdiv (wrap64 (Go.bits .and .u16 a2 t178)) (wrap64 (Go.bits .and .u16 a3 t178)))), 0))) else (if a0 = 11 then (if (wrap64 (Go.bits .and .u16 a3 t178)) = 0 then (some (IntKind.u16.wrap (wrap64 (Go.bits .and .u16 a2 t178)), 0)) else (some (IntKind.u16.wrap (Int.tmod (wrap64 (Go.bits .and .u16 a2 t178)) (wrap64 (Go.bits .and .u16 a3 t178))), 0))) else (if a0 = 12 then (if (wrap64 (Go.bits .and .u16 a3 t178)) ≥ a1 then (some (0, 0)) else (if 0 ≤ (IntKind.u64.wrap (wrap64 (Go.bits .and .u16 a3 t178))) then (some (IntKind.u16.wrap (Go.bits .and .i64 (shl .i64 (wrap64 (Go.bits .and .u16 a2 t178)) (IntKind.u64.wrap (wrap64 (Go.bits .and .u16 a3 t178)))) (wrap64 (t178))), 0)) else (none))) else (if a0 = 13 then (if (wrap64 (Go.bits .and .u16 a3 t178)) ≥ a1 then (some (0, 0)) else (if 0 ≤ (IntKind.u64.wrap (wrap64 (Go.bits .and .u16 a3 t178))) then (some (IntKind.u16.wrap (shr .i64 (wrap64 (Go.bits .and .u16 a2 t178)) (IntKind.u64.wrap (wrap64 (Go.bits .and .u16 a3 t178)))), 0)) else (none))) else (if a0 = 14 then ((crossroadsref1_bit.f ((wrap64 (Go.bits .and .u16 a2 t178)) == (wrap64 (Go.bits .and .u16 a3 t178)))).bind fun t179 => (some (t179, 0))) else (if a0 = 15 then ((crossroadsref1_bit.f (decide ((wrap64 (Go.bits .and .u16 a2 t178)) < (wrap64 (Go.bits .and .u16 a3 t178))))).bind fun t180 => (some (t180, 0))) else (some (0, 5)))))))))))))))) = some (r1, r2) := by rw [if_pos rfl] at H; exact H
    clear H
    have H := H1
    clear H1
    replace H := Option.bind_eq_some_iff.mp H
    obtain ⟨t178, A70, H⟩ := H
    replace H : (if a0 = 3 then (some (Go.bits .and .u16 (Go.bits .xor .u16 65535 a2) t178, 0)) else (if a0 = 4 then (some (Go.bits .and .u16 (Go.bits .and .u16 a2 a3) t178, 0)) else (if a0 = 5 then (some (Go.bits .and .u16 (Go.bits .or .u16 a2 a3) t178, 0)) else (if a0 = 6 then (some (Go.bits .and .u16 (Go.bits .xor .u16 a2 a3) t178, 0)) else (if a0 = 7 then (some (IntKind.u16.wrap (Go.bits .and .i64 (wrap64 ((wrap64 (Go.bits .and .u16 a2 t178)) + (wrap64 (Go.bits .and .u16 a3 t178)))) (wrap64 (t178))), 0)) else (if a0 = 8 then (some (IntKind.u16.wrap (Go.bits .and .i64 (wrap64 ((wrap64 (Go.bits .and .u16 a2 t178)) - (wrap64 (Go.bits .and .u16 a3 t178)))) (wrap64 (t178))), 0)) else (if a0 = 9 then (some (IntKind.u16.wrap (Go.bits .and .i64 (wrap64 ((wrap64 (Go.bits .and .u16 a2 t178)) * (wrap64 (Go.bits .and .u16 a3 t178)))) (wrap64 (t178))), 0)) else (if a0 = 10 then (if (wrap64 (Go.bits .and .u16 a3 t178)) = 0 then (some (t178, 0)) else (some (IntKind.u16.wrap (wrap64 (Int.tdiv (wrap64 (Go.bits .and .u16 a2 t178)) (wrap64 (Go.bits .and .u16 a3 t178)))), 0))) else (if a0 = 11 then (if (wrap64 (Go.bits .and .u16 a3 t178)) = 0 then (some (IntKind.u16.wrap (wrap64 (Go.bits .and .u16 a2 t178)), 0)) else (some (IntKind.u16.wrap (Int.tmod (wrap64 (Go.bits .and .u16 a2 t178)) (wrap64 (Go.bits .and .u16 a3 t178))), 0))) else (if a0 = 12 then (if (wrap64 (Go.bits .and .u16 a3 t178)) ≥ a1 then (some (0, 0)) else (if 0 ≤ (IntKind.u64.wrap (wrap64 (Go.bits .and .u16 a3 t178))) then (some (IntKind.u16.wrap (Go.bits .and .i64 (shl .i64 (wrap64 (Go.bits .and .u16 a2 t178)) (IntKind.u64.wrap (wrap64 (Go.bits .and .u16 a3 t178)))) (wrap64 (t178))), 0)) else (none))) else (if a0 = 13 then (if (wrap64 (Go.bits .and .u16 a3 t178)) ≥ a1 then (some (0, 0)) else (if 0 ≤ (IntKind.u64.wrap (wrap64 (Go.bits .and .u16 a3 t178))) then (some (IntKind.u16.wrap (shr .i64 (wrap64 (Go.bits .and .u16 a2 t178)) (IntKind.u64.wrap (wrap64 (Go.bits .and .u16 a3 t178)))), 0)) else (none))) else (if a0 = 14 then ((crossroadsref1_bit.f ((wrap64 (Go.bits .and .u16 a2 t178)) == (wrap64 (Go.bits .and .u16 a3 t178)))).bind fun t179 => (some (t179, 0))) else (if a0 = 15 then ((crossroadsref1_bit.f (decide ((wrap64 (Go.bits .and .u16 a2 t178)) < (wrap64 (Go.bits .and .u16 a3 t178))))).bind fun t180 => (some (t180, 0))) else (some (0, 5))))))))))))))) = some (r1, r2) := H
    have A7 := Aside0.mk A70
    clear A70
    by_cases c8 : a0 = 3
    · rw [if_pos c8] at H
      have c8b0 : (a0 == 3) = true := beq_iff_eq.mpr c8
      have c8b1 : (a0 != 3) = false := bne_eq_false_iff_eq.mpr c8
      clear c8
      simp only [Option.some.injEq, Prod.mk.injEq] at H
      obtain ⟨rfl, rfl⟩ := H
      go_enter Try.func11, Try.ntmps11
      go_wp2_with (first | ((with_reducible refine gate_callee (f := 14) rfl ?_); refine goesL_ (some 14) rfl rfl Try.func14 (by kernel_rfl) rfl #[.int .i64 a1] rfl (by (try simp only [List.map_toArray, List.map_cons, List.map_nil]); first | done | rfl | (simp only [List.length_drop, List.length_take]; rfl)) ?_; (with_reducible refine (crossroadsref1_May.calls a1 true _ A5.out).mono ?_); rintro e w' ⟨rfl, ⟨nd, rfl⟩⟩; refine ⟨_, rfl, ?_⟩) | ((with_reducible refine gate_callee (f := 16) rfl ?_); refine goesL_ (some 17) rfl rfl Try.func16 (by kernel_rfl) rfl #[.int .i64 a1] rfl (by (try simp only [List.map_toArray, List.map_cons, List.map_nil]); first | done | rfl | (simp only [List.length_drop, List.length_take]; rfl)) ?_; (with_reducible refine (crossroadsref1_Mask.calls a1 t178 _ A7.out).mono ?_); rintro e w' ⟨rfl, ⟨nd, rfl⟩⟩; refine ⟨_, rfl, ?_⟩))
      go_ret2
      exact ⟨by first | rfl | (simp; done) | (simp [*]; done), by repeat (first | exact Drawn0.refl _ | apply Drawn0.step)⟩
    · rw [if_neg c8] at H
      have c8b0 : (a0 == 3) = false := beq_eq_false_iff_ne.mpr c8
      have c8b1 : (a0 != 3) = true := bne_iff_ne.mpr c8
      by_cases c9 : a0 = 4
      · rw [if_pos c9] at H
        have c9b0 : (a0 == 4) = true := beq_iff_eq.mpr c9
        have c9b1 : (a0 != 4) = false := bne_eq_false_iff_eq.mpr c9
        clear c9
        simp only [Option.some.injEq, Prod.mk.injEq] at H
        obtain ⟨rfl, rfl⟩ := H
        go_enter Try.func11, Try.ntmps11
        go_wp2_with (first | ((with_reducible refine gate_callee (f := 14) rfl ?_); refine goesL_ (some 14) rfl rfl Try.func14 (by kernel_rfl) rfl #[.int .i64 a1] rfl (by (try simp only [List.map_toArray, List.map_cons, List.map_nil]); first | done | rfl | (simp only [List.length_drop, List.length_take]; rfl)) ?_; (with_reducible refine (crossroadsref1_May.calls a1 true _ A5.out).mono ?_); rintro e w' ⟨rfl, ⟨nd, rfl⟩⟩; refine ⟨_, rfl, ?_⟩) | ((with_reducible refine gate_callee (f := 16) rfl ?_); refine goesL_ (some 17) rfl rfl Try.func16 (by kernel_rfl) rfl #[.int .i64 a1] rfl (by (try simp only [List.map_toArray, List.map_cons, List.map_nil]); first | done | rfl | (simp only [List.length_drop, List.length_take]; rfl)) ?_; (with_reducible refine (crossroadsref1_Mask.calls a1 t178 _ A7.out).mono ?_); rintro e w' ⟨rfl, ⟨nd, rfl⟩⟩; refine ⟨_, rfl, ?_⟩))
        go_ret2
        exact ⟨by first | rfl | (simp; done) | (simp [*]; done), by repeat (first | exact Drawn0.refl _ | apply Drawn0.step)⟩
      · rw [if_neg c9] at H
        have c9b0 : (a0 == 4) = false := beq_eq_false_iff_ne.mpr c9
        have c9b1 : (a0 != 4) = true := bne_iff_ne.mpr c9
        by_cases c10 : a0 = 5
        · rw [if_pos c10] at H
          have c10b0 : (a0 == 5) = true := beq_iff_eq.mpr c10
          have c10b1 : (a0 != 5) = false := bne_eq_false_iff_eq.mpr c10
          clear c10
          simp only [Option.some.injEq, Prod.mk.injEq] at H
          obtain ⟨rfl, rfl⟩ := H
          go_enter Try.func11, Try.ntmps11
          go_wp2_with (first | ((with_reducible refine gate_callee (f := 14) rfl ?_); refine goesL_ (some 14) rfl rfl Try.func14 (by kernel_rfl) rfl #[.int .i64 a1] rfl (by (try simp only [List.map_toArray, List.map_cons, List.map_nil]); first | done | rfl | (simp only [List.length_drop, List.length_take]; rfl)) ?_; (with_reducible refine (crossroadsref1_May.calls a1 true _ A5.out).mono ?_); rintro e w' ⟨rfl, ⟨nd, rfl⟩⟩; refine ⟨_, rfl, ?_⟩) | ((with_reducible refine gate_callee (f := 16) rfl ?_); refine goesL_ (some 17) rfl rfl Try.func16 (by kernel_rfl) rfl #[.int .i64 a1] rfl (by (try simp only [List.map_toArray, List.map_cons, List.map_nil]); first | done | rfl | (simp only [List.length_drop, List.length_take]; rfl)) ?_; (with_reducible refine (crossroadsref1_Mask.calls a1 t178 _ A7.out).mono ?_); rintro e w' ⟨rfl, ⟨nd, rfl⟩⟩; refine ⟨_, rfl, ?_⟩))
          go_ret2
          exact ⟨by first | rfl | (simp; done) | (simp [*]; done), by repeat (first | exact Drawn0.refl _ | apply Drawn0.step)⟩
        · rw [if_neg c10] at H
          have c10b0 : (a0 == 5) = false := beq_eq_false_iff_ne.mpr c10
          have c10b1 : (a0 != 5) = true := bne_iff_ne.mpr c10
          by_cases c11 : a0 = 6
          · rw [if_pos c11] at H
            have c11b0 : (a0 == 6) = true := beq_iff_eq.mpr c11
            have c11b1 : (a0 != 6) = false := bne_eq_false_iff_eq.mpr c11
            clear c11
            simp only [Option.some.injEq, Prod.mk.injEq] at H
            obtain ⟨rfl, rfl⟩ := H
            go_enter Try.func11, Try.ntmps11
            go_wp2_with (first | ((with_reducible refine gate_callee (f := 14) rfl ?_); refine goesL_ (some 14) rfl rfl Try.func14 (by kernel_rfl) rfl #[.int .i64 a1] rfl (by (try simp only [List.map_toArray, List.map_cons, List.map_nil]); first | done | rfl | (simp only [List.length_drop, List.length_take]; rfl)) ?_; (with_reducible refine (crossroadsref1_May.calls a1 true _ A5.out).mono ?_); rintro e w' ⟨rfl, ⟨nd, rfl⟩⟩; refine ⟨_, rfl, ?_⟩) | ((with_reducible refine gate_callee (f := 16) rfl ?_); refine goesL_ (some 17) rfl rfl Try.func16 (by kernel_rfl) rfl #[.int .i64 a1] rfl (by (try simp only [List.map_toArray, List.map_cons, List.map_nil]); first | done | rfl | (simp only [List.length_drop, List.length_take]; rfl)) ?_; (with_reducible refine (crossroadsref1_Mask.calls a1 t178 _ A7.out).mono ?_); rintro e w' ⟨rfl, ⟨nd, rfl⟩⟩; refine ⟨_, rfl, ?_⟩))
            go_ret2
            exact ⟨by first | rfl | (simp; done) | (simp [*]; done), by repeat (first | exact Drawn0.refl _ | apply Drawn0.step)⟩
          · rw [if_neg c11] at H
            have c11b0 : (a0 == 6) = false := beq_eq_false_iff_ne.mpr c11
            have c11b1 : (a0 != 6) = true := bne_iff_ne.mpr c11
            by_cases c12 : a0 = 7
            · rw [if_pos c12] at H
              have c12b0 : (a0 == 7) = true := beq_iff_eq.mpr c12
              have c12b1 : (a0 != 7) = false := bne_eq_false_iff_eq.mpr c12
              clear c12
              simp only [Option.some.injEq, Prod.mk.injEq] at H
              obtain ⟨rfl, rfl⟩ := H
              go_enter Try.func11, Try.ntmps11
              go_wp2_with (first | ((with_reducible refine gate_callee (f := 14) rfl ?_); refine goesL_ (some 14) rfl rfl Try.func14 (by kernel_rfl) rfl #[.int .i64 a1] rfl (by (try simp only [List.map_toArray, List.map_cons, List.map_nil]); first | done | rfl | (simp only [List.length_drop, List.length_take]; rfl)) ?_; (with_reducible refine (crossroadsref1_May.calls a1 true _ A5.out).mono ?_); rintro e w' ⟨rfl, ⟨nd, rfl⟩⟩; refine ⟨_, rfl, ?_⟩) | ((with_reducible refine gate_callee (f := 16) rfl ?_); refine goesL_ (some 17) rfl rfl Try.func16 (by kernel_rfl) rfl #[.int .i64 a1] rfl (by (try simp only [List.map_toArray, List.map_cons, List.map_nil]); first | done | rfl | (simp only [List.length_drop, List.length_take]; rfl)) ?_; (with_reducible refine (crossroadsref1_Mask.calls a1 t178 _ A7.out).mono ?_); rintro e w' ⟨rfl, ⟨nd, rfl⟩⟩; refine ⟨_, rfl, ?_⟩))
              go_ret2
              exact ⟨by first | rfl | (simp; done) | (simp [*]; done), by repeat (first | exact Drawn0.refl _ | apply Drawn0.step)⟩
            · rw [if_neg c12] at H
              have c12b0 : (a0 == 7) = false := beq_eq_false_iff_ne.mpr c12
              have c12b1 : (a0 != 7) = true := bne_iff_ne.mpr c12
              by_cases c13 : a0 = 8
              · rw [if_pos c13] at H
                have c13b0 : (a0 == 8) = true := beq_iff_eq.mpr c13
                have c13b1 : (a0 != 8) = false := bne_eq_false_iff_eq.mpr c13
                clear c13
                simp only [Option.some.injEq, Prod.mk.injEq] at H
                obtain ⟨rfl, rfl⟩ := H
                go_enter Try.func11, Try.ntmps11
                go_wp2_with (first | ((with_reducible refine gate_callee (f := 14) rfl ?_); refine goesL_ (some 14) rfl rfl Try.func14 (by kernel_rfl) rfl #[.int .i64 a1] rfl (by (try simp only [List.map_toArray, List.map_cons, List.map_nil]); first | done | rfl | (simp only [List.length_drop, List.length_take]; rfl)) ?_; (with_reducible refine (crossroadsref1_May.calls a1 true _ A5.out).mono ?_); rintro e w' ⟨rfl, ⟨nd, rfl⟩⟩; refine ⟨_, rfl, ?_⟩) | ((with_reducible refine gate_callee (f := 16) rfl ?_); refine goesL_ (some 17) rfl rfl Try.func16 (by kernel_rfl) rfl #[.int .i64 a1] rfl (by (try simp only [List.map_toArray, List.map_cons, List.map_nil]); first | done | rfl | (simp only [List.length_drop, List.length_take]; rfl)) ?_; (with_reducible refine (crossroadsref1_Mask.calls a1 t178 _ A7.out).mono ?_); rintro e w' ⟨rfl, ⟨nd, rfl⟩⟩; refine ⟨_, rfl, ?_⟩))
                go_ret2
                exact ⟨by first | rfl | (simp; done) | (simp [*]; done), by repeat (first | exact Drawn0.refl _ | apply Drawn0.step)⟩
              · rw [if_neg c13] at H
                have c13b0 : (a0 == 8) = false := beq_eq_false_iff_ne.mpr c13
                have c13b1 : (a0 != 8) = true := bne_iff_ne.mpr c13
                by_cases c14 : a0 = 9
                · rw [if_pos c14] at H
                  have c14b0 : (a0 == 9) = true := beq_iff_eq.mpr c14
                  have c14b1 : (a0 != 9) = false := bne_eq_false_iff_eq.mpr c14
                  clear c14
                  simp only [Option.some.injEq, Prod.mk.injEq] at H
                  obtain ⟨rfl, rfl⟩ := H
                  go_enter Try.func11, Try.ntmps11
                  go_wp2_with (first | ((with_reducible refine gate_callee (f := 14) rfl ?_); refine goesL_ (some 14) rfl rfl Try.func14 (by kernel_rfl) rfl #[.int .i64 a1] rfl (by (try simp only [List.map_toArray, List.map_cons, List.map_nil]); first | done | rfl | (simp only [List.length_drop, List.length_take]; rfl)) ?_; (with_reducible refine (crossroadsref1_May.calls a1 true _ A5.out).mono ?_); rintro e w' ⟨rfl, ⟨nd, rfl⟩⟩; refine ⟨_, rfl, ?_⟩) | ((with_reducible refine gate_callee (f := 16) rfl ?_); refine goesL_ (some 17) rfl rfl Try.func16 (by kernel_rfl) rfl #[.int .i64 a1] rfl (by (try simp only [List.map_toArray, List.map_cons, List.map_nil]); first | done | rfl | (simp only [List.length_drop, List.length_take]; rfl)) ?_; (with_reducible refine (crossroadsref1_Mask.calls a1 t178 _ A7.out).mono ?_); rintro e w' ⟨rfl, ⟨nd, rfl⟩⟩; refine ⟨_, rfl, ?_⟩))
                  go_ret2
                  exact ⟨by first | rfl | (simp; done) | (simp [*]; done), by repeat (first | exact Drawn0.refl _ | apply Drawn0.step)⟩
                · rw [if_neg c14] at H
                  have c14b0 : (a0 == 9) = false := beq_eq_false_iff_ne.mpr c14
                  have c14b1 : (a0 != 9) = true := bne_iff_ne.mpr c14
                  by_cases c15 : a0 = 10
                  · rw [if_pos c15] at H
                    have c15b0 : (a0 == 10) = true := beq_iff_eq.mpr c15
                    have c15b1 : (a0 != 10) = false := bne_eq_false_iff_eq.mpr c15
                    clear c15
                    by_cases c16 : (wrap64 (Go.bits .and .u16 a3 t178)) = 0
                    · rw [if_pos c16] at H
                      have c16b0 : ((wrap64 (Go.bits .and .u16 a3 t178)) == 0) = true := beq_iff_eq.mpr c16
                      have c16b1 : ((wrap64 (Go.bits .and .u16 a3 t178)) != 0) = false := bne_eq_false_iff_eq.mpr c16
                      clear c16
                      simp only [Option.some.injEq, Prod.mk.injEq] at H
                      obtain ⟨rfl, rfl⟩ := H
                      go_enter Try.func11, Try.ntmps11
                      go_wp2_with (first | ((with_reducible refine gate_callee (f := 14) rfl ?_); refine goesL_ (some 14) rfl rfl Try.func14 (by kernel_rfl) rfl #[.int .i64 a1] rfl (by (try simp only [List.map_toArray, List.map_cons, List.map_nil]); first | done | rfl | (simp only [List.length_drop, List.length_take]; rfl)) ?_; (with_reducible refine (crossroadsref1_May.calls a1 true _ A5.out).mono ?_); rintro e w' ⟨rfl, ⟨nd, rfl⟩⟩; refine ⟨_, rfl, ?_⟩) | ((with_reducible refine gate_callee (f := 16) rfl ?_); refine goesL_ (some 17) rfl rfl Try.func16 (by kernel_rfl) rfl #[.int .i64 a1] rfl (by (try simp only [List.map_toArray, List.map_cons, List.map_nil]); first | done | rfl | (simp only [List.length_drop, List.length_take]; rfl)) ?_; (with_reducible refine (crossroadsref1_Mask.calls a1 t178 _ A7.out).mono ?_); rintro e w' ⟨rfl, ⟨nd, rfl⟩⟩; refine ⟨_, rfl, ?_⟩))
                      go_ret2
                      exact ⟨by first | rfl | (simp; done) | (simp [*]; done), by repeat (first | exact Drawn0.refl _ | apply Drawn0.step)⟩
                    · rw [if_neg c16] at H
                      have c16b0 : ((wrap64 (Go.bits .and .u16 a3 t178)) == 0) = false := beq_eq_false_iff_ne.mpr c16
                      have c16b1 : ((wrap64 (Go.bits .and .u16 a3 t178)) != 0) = true := bne_iff_ne.mpr c16
                      simp only [Option.some.injEq, Prod.mk.injEq] at H
                      obtain ⟨rfl, rfl⟩ := H
                      go_enter Try.func11, Try.ntmps11
                      go_wp2_with (first | ((with_reducible refine gate_callee (f := 14) rfl ?_); refine goesL_ (some 14) rfl rfl Try.func14 (by kernel_rfl) rfl #[.int .i64 a1] rfl (by (try simp only [List.map_toArray, List.map_cons, List.map_nil]); first | done | rfl | (simp only [List.length_drop, List.length_take]; rfl)) ?_; (with_reducible refine (crossroadsref1_May.calls a1 true _ A5.out).mono ?_); rintro e w' ⟨rfl, ⟨nd, rfl⟩⟩; refine ⟨_, rfl, ?_⟩) | ((with_reducible refine gate_callee (f := 16) rfl ?_); refine goesL_ (some 17) rfl rfl Try.func16 (by kernel_rfl) rfl #[.int .i64 a1] rfl (by (try simp only [List.map_toArray, List.map_cons, List.map_nil]); first | done | rfl | (simp only [List.length_drop, List.length_take]; rfl)) ?_; (with_reducible refine (crossroadsref1_Mask.calls a1 t178 _ A7.out).mono ?_); rintro e w' ⟨rfl, ⟨nd, rfl⟩⟩; refine ⟨_, rfl, ?_⟩))
                      go_ret2
                      exact ⟨by first | rfl | (simp; done) | (simp [*]; done), by repeat (first | exact Drawn0.refl _ | apply Drawn0.step)⟩
                  · rw [if_neg c15] at H
                    have c15b0 : (a0 == 10) = false := beq_eq_false_iff_ne.mpr c15
                    have c15b1 : (a0 != 10) = true := bne_iff_ne.mpr c15
                    by_cases c17 : a0 = 11
                    · rw [if_pos c17] at H
                      have c17b0 : (a0 == 11) = true := beq_iff_eq.mpr c17
                      have c17b1 : (a0 != 11) = false := bne_eq_false_iff_eq.mpr c17
                      clear c17
                      by_cases c18 : (wrap64 (Go.bits .and .u16 a3 t178)) = 0
                      · rw [if_pos c18] at H
                        have c18b0 : ((wrap64 (Go.bits .and .u16 a3 t178)) == 0) = true := beq_iff_eq.mpr c18
                        have c18b1 : ((wrap64 (Go.bits .and .u16 a3 t178)) != 0) = false := bne_eq_false_iff_eq.mpr c18
                        clear c18
                        simp only [Option.some.injEq, Prod.mk.injEq] at H
                        obtain ⟨rfl, rfl⟩ := H
                        go_enter Try.func11, Try.ntmps11
                        go_wp2_with (first | ((with_reducible refine gate_callee (f := 14) rfl ?_); refine goesL_ (some 14) rfl rfl Try.func14 (by kernel_rfl) rfl #[.int .i64 a1] rfl (by (try simp only [List.map_toArray, List.map_cons, List.map_nil]); first | done | rfl | (simp only [List.length_drop, List.length_take]; rfl)) ?_; (with_reducible refine (crossroadsref1_May.calls a1 true _ A5.out).mono ?_); rintro e w' ⟨rfl, ⟨nd, rfl⟩⟩; refine ⟨_, rfl, ?_⟩) | ((with_reducible refine gate_callee (f := 16) rfl ?_); refine goesL_ (some 17) rfl rfl Try.func16 (by kernel_rfl) rfl #[.int .i64 a1] rfl (by (try simp only [List.map_toArray, List.map_cons, List.map_nil]); first | done | rfl | (simp only [List.length_drop, List.length_take]; rfl)) ?_; (with_reducible refine (crossroadsref1_Mask.calls a1 t178 _ A7.out).mono ?_); rintro e w' ⟨rfl, ⟨nd, rfl⟩⟩; refine ⟨_, rfl, ?_⟩))
                        go_ret2
                        exact ⟨by first | rfl | (simp; done) | (simp [*]; done), by repeat (first | exact Drawn0.refl _ | apply Drawn0.step)⟩
                      · rw [if_neg c18] at H
                        have c18b0 : ((wrap64 (Go.bits .and .u16 a3 t178)) == 0) = false := beq_eq_false_iff_ne.mpr c18
                        have c18b1 : ((wrap64 (Go.bits .and .u16 a3 t178)) != 0) = true := bne_iff_ne.mpr c18
                        simp only [Option.some.injEq, Prod.mk.injEq] at H
                        obtain ⟨rfl, rfl⟩ := H
                        go_enter Try.func11, Try.ntmps11
                        go_wp2_with (first | ((with_reducible refine gate_callee (f := 14) rfl ?_); refine goesL_ (some 14) rfl rfl Try.func14 (by kernel_rfl) rfl #[.int .i64 a1] rfl (by (try simp only [List.map_toArray, List.map_cons, List.map_nil]); first | done | rfl | (simp only [List.length_drop, List.length_take]; rfl)) ?_; (with_reducible refine (crossroadsref1_May.calls a1 true _ A5.out).mono ?_); rintro e w' ⟨rfl, ⟨nd, rfl⟩⟩; refine ⟨_, rfl, ?_⟩) | ((with_reducible refine gate_callee (f := 16) rfl ?_); refine goesL_ (some 17) rfl rfl Try.func16 (by kernel_rfl) rfl #[.int .i64 a1] rfl (by (try simp only [List.map_toArray, List.map_cons, List.map_nil]); first | done | rfl | (simp only [List.length_drop, List.length_take]; rfl)) ?_; (with_reducible refine (crossroadsref1_Mask.calls a1 t178 _ A7.out).mono ?_); rintro e w' ⟨rfl, ⟨nd, rfl⟩⟩; refine ⟨_, rfl, ?_⟩))
                        go_ret2
                        exact ⟨by first | rfl | (simp; done) | (simp [*]; done), by repeat (first | exact Drawn0.refl _ | apply Drawn0.step)⟩
                    · rw [if_neg c17] at H
                      have c17b0 : (a0 == 11) = false := beq_eq_false_iff_ne.mpr c17
                      have c17b1 : (a0 != 11) = true := bne_iff_ne.mpr c17
                      by_cases c19 : a0 = 12
                      · rw [if_pos c19] at H
                        have c19b0 : (a0 == 12) = true := beq_iff_eq.mpr c19
                        have c19b1 : (a0 != 12) = false := bne_eq_false_iff_eq.mpr c19
                        clear c19
                        by_cases c20 : (wrap64 (Go.bits .and .u16 a3 t178)) ≥ a1
                        · rw [if_pos c20] at H
                          have c20b0 : decide (a1 ≤ (wrap64 (Go.bits .and .u16 a3 t178))) = true := decide_eq_true c20
                          clear c20
                          simp only [Option.some.injEq, Prod.mk.injEq] at H
                          obtain ⟨rfl, rfl⟩ := H
                          go_enter Try.func11, Try.ntmps11
                          go_wp2_with (first | ((with_reducible refine gate_callee (f := 14) rfl ?_); refine goesL_ (some 14) rfl rfl Try.func14 (by kernel_rfl) rfl #[.int .i64 a1] rfl (by (try simp only [List.map_toArray, List.map_cons, List.map_nil]); first | done | rfl | (simp only [List.length_drop, List.length_take]; rfl)) ?_; (with_reducible refine (crossroadsref1_May.calls a1 true _ A5.out).mono ?_); rintro e w' ⟨rfl, ⟨nd, rfl⟩⟩; refine ⟨_, rfl, ?_⟩) | ((with_reducible refine gate_callee (f := 16) rfl ?_); refine goesL_ (some 17) rfl rfl Try.func16 (by kernel_rfl) rfl #[.int .i64 a1] rfl (by (try simp only [List.map_toArray, List.map_cons, List.map_nil]); first | done | rfl | (simp only [List.length_drop, List.length_take]; rfl)) ?_; (with_reducible refine (crossroadsref1_Mask.calls a1 t178 _ A7.out).mono ?_); rintro e w' ⟨rfl, ⟨nd, rfl⟩⟩; refine ⟨_, rfl, ?_⟩))
                          go_ret2
                          exact ⟨by first | rfl | (simp; done) | (simp [*]; done), by repeat (first | exact Drawn0.refl _ | apply Drawn0.step)⟩
                        · rw [if_neg c20] at H
                          have c20b0 : decide (a1 ≤ (wrap64 (Go.bits .and .u16 a3 t178))) = false := decide_eq_false c20
                          clear c20
                          obtain ⟨ji21, hji21⟩ : ∃ j_ : Int, (IntKind.u64.wrap (wrap64 (Go.bits .and .u16 a3 t178))) = j_ := ⟨_, rfl⟩
                          replace H : (if 0 ≤ (ji21) then (some (IntKind.u16.wrap (Go.bits .and .i64 (shl .i64 (wrap64 (Go.bits .and .u16 a2 t178)) (ji21)) (wrap64 (t178))), 0)) else (none)) = some (r1, r2) := by first | (rw [hji21] at H; exact H) | (simp only [hji21] at H ⊢; exact H)
                          (try rw [hji21] at A5)
                          (try rw [hji21] at A7)
                          by_cases c22 : 0 ≤ (ji21)
                          · rw [if_pos c22] at H
                            have c22b0 := eq_true c22
                            have c22b1 : decide (0 ≤ (ji21)) = true := decide_eq_true c22
                            clear c22
                            obtain ⟨ji23, hji23⟩ : ∃ j_ : Int, (shl .i64 (wrap64 (Go.bits .and .u16 a2 t178)) (ji21)) = j_ := ⟨_, rfl⟩
                            replace H : (some (IntKind.u16.wrap (Go.bits .and .i64 (ji23) (wrap64 (t178))), 0)) = some (r1, r2) := by first | (rw [hji23] at H; exact H) | (simp only [hji23] at H ⊢; exact H)
                            (try rw [hji23] at A5)
                            (try rw [hji23] at A7)
                            have hji23_ : (IntKind.i64.wrap ((wrap64 (Go.bits .and .u16 a2 t178)) * 2 ^ min (ji21).toNat 64)) = ji23 := hji23
                            have hji23z : (ji21) ≤ 64 → (IntKind.i64.wrap ((wrap64 (Go.bits .and .u16 a2 t178)) * 2 ^ (ji21).toNat)) = ji23 := shl_small hji23
                            have hji23y : (wrap64 ((wrap64 (Go.bits .and .u16 a2 t178)) * 2 ^ min (ji21).toNat 64)) = ji23 := (i64_w _).symm.trans hji23_
                            have hji23x : (ji21) ≤ 64 → (wrap64 ((wrap64 (Go.bits .and .u16 a2 t178)) * 2 ^ (ji21).toNat)) = ji23 := fun h_ => (i64_w _).symm.trans (hji23z h_)
                            simp only [Option.some.injEq, Prod.mk.injEq] at H
                            obtain ⟨rfl, rfl⟩ := H
                            go_enter Try.func11, Try.ntmps11
                            go_wp2_with (first | ((with_reducible refine gate_callee (f := 14) rfl ?_); refine goesL_ (some 14) rfl rfl Try.func14 (by kernel_rfl) rfl #[.int .i64 a1] rfl (by (try simp only [List.map_toArray, List.map_cons, List.map_nil]); first | done | rfl | (simp only [List.length_drop, List.length_take]; rfl)) ?_; (with_reducible refine (crossroadsref1_May.calls a1 true _ A5.out).mono ?_); rintro e w' ⟨rfl, ⟨nd, rfl⟩⟩; refine ⟨_, rfl, ?_⟩) | ((with_reducible refine gate_callee (f := 16) rfl ?_); refine goesL_ (some 17) rfl rfl Try.func16 (by kernel_rfl) rfl #[.int .i64 a1] rfl (by (try simp only [List.map_toArray, List.map_cons, List.map_nil]); first | done | rfl | (simp only [List.length_drop, List.length_take]; rfl)) ?_; (with_reducible refine (crossroadsref1_Mask.calls a1 t178 _ A7.out).mono ?_); rintro e w' ⟨rfl, ⟨nd, rfl⟩⟩; refine ⟨_, rfl, ?_⟩))
                            go_ret2
                            exact ⟨by first | rfl | (simp; done) | (simp only [← hji21, ← hji23] <;> (first | rfl | simp)) | (simp [*]; done), by repeat (first | exact Drawn0.refl _ | apply Drawn0.step)⟩
                          · rw [if_neg c22] at H
                            exact absurd H (by simp)
                      · rw [if_neg c19] at H
                        have c19b0 : (a0 == 12) = false := beq_eq_false_iff_ne.mpr c19
                        have c19b1 : (a0 != 12) = true := bne_iff_ne.mpr c19
                        by_cases c24 : a0 = 13
                        · rw [if_pos c24] at H
                          have c24b0 : (a0 == 13) = true := beq_iff_eq.mpr c24
                          have c24b1 : (a0 != 13) = false := bne_eq_false_iff_eq.mpr c24
                          clear c24
                          by_cases c25 : (wrap64 (Go.bits .and .u16 a3 t178)) ≥ a1
                          · rw [if_pos c25] at H
                            have c25b0 : decide (a1 ≤ (wrap64 (Go.bits .and .u16 a3 t178))) = true := decide_eq_true c25
                            clear c25
                            simp only [Option.some.injEq, Prod.mk.injEq] at H
                            obtain ⟨rfl, rfl⟩ := H
                            go_enter Try.func11, Try.ntmps11
                            go_wp2_with (first | ((with_reducible refine gate_callee (f := 14) rfl ?_); refine goesL_ (some 14) rfl rfl Try.func14 (by kernel_rfl) rfl #[.int .i64 a1] rfl (by (try simp only [List.map_toArray, List.map_cons, List.map_nil]); first | done | rfl | (simp only [List.length_drop, List.length_take]; rfl)) ?_; (with_reducible refine (crossroadsref1_May.calls a1 true _ A5.out).mono ?_); rintro e w' ⟨rfl, ⟨nd, rfl⟩⟩; refine ⟨_, rfl, ?_⟩) | ((with_reducible refine gate_callee (f := 16) rfl ?_); refine goesL_ (some 17) rfl rfl Try.func16 (by kernel_rfl) rfl #[.int .i64 a1] rfl (by (try simp only [List.map_toArray, List.map_cons, List.map_nil]); first | done | rfl | (simp only [List.length_drop, List.length_take]; rfl)) ?_; (with_reducible refine (crossroadsref1_Mask.calls a1 t178 _ A7.out).mono ?_); rintro e w' ⟨rfl, ⟨nd, rfl⟩⟩; refine ⟨_, rfl, ?_⟩))
                            go_ret2
                            exact ⟨by first | rfl | (simp; done) | (simp [*]; done), by repeat (first | exact Drawn0.refl _ | apply Drawn0.step)⟩
                          · rw [if_neg c25] at H
                            have c25b0 : decide (a1 ≤ (wrap64 (Go.bits .and .u16 a3 t178))) = false := decide_eq_false c25
                            clear c25
                            obtain ⟨ji26, hji26⟩ : ∃ j_ : Int, (IntKind.u64.wrap (wrap64 (Go.bits .and .u16 a3 t178))) = j_ := ⟨_, rfl⟩
                            replace H : (if 0 ≤ (ji26) then (some (IntKind.u16.wrap (shr .i64 (wrap64 (Go.bits .and .u16 a2 t178)) (ji26)), 0)) else (none)) = some (r1, r2) := by first | (rw [hji26] at H; exact H) | (simp only [hji26] at H ⊢; exact H)
                            (try rw [hji26] at A5)
                            (try rw [hji26] at A7)
                            by_cases c27 : 0 ≤ (ji26)
                            · rw [if_pos c27] at H
                              have c27b0 := eq_true c27
                              have c27b1 : decide (0 ≤ (ji26)) = true := decide_eq_true c27
                              clear c27
                              obtain ⟨ji28, hji28⟩ : ∃ j_ : Int, (shr .i64 (wrap64 (Go.bits .and .u16 a2 t178)) (ji26)) = j_ := ⟨_, rfl⟩
                              replace H : (some (IntKind.u16.wrap (ji28), 0)) = some (r1, r2) := by first | (rw [hji28] at H; exact H) | (simp only [hji28] at H ⊢; exact H)
                              (try rw [hji28] at A5)
                              (try rw [hji28] at A7)
                              have hji28_ : ((wrap64 (Go.bits .and .u16 a2 t178)) / 2 ^ min (ji26).toNat 64) = ji28 := hji28
                              have hji28z : (ji26) ≤ 64 → ((wrap64 (Go.bits .and .u16 a2 t178)) / 2 ^ (ji26).toNat) = ji28 := shr_small hji28
                              simp only [Option.some.injEq, Prod.mk.injEq] at H
                              obtain ⟨rfl, rfl⟩ := H
                              go_enter Try.func11, Try.ntmps11
                              go_wp2_with (first | ((with_reducible refine gate_callee (f := 14) rfl ?_); refine goesL_ (some 14) rfl rfl Try.func14 (by kernel_rfl) rfl #[.int .i64 a1] rfl (by (try simp only [List.map_toArray, List.map_cons, List.map_nil]); first | done | rfl | (simp only [List.length_drop, List.length_take]; rfl)) ?_; (with_reducible refine (crossroadsref1_May.calls a1 true _ A5.out).mono ?_); rintro e w' ⟨rfl, ⟨nd, rfl⟩⟩; refine ⟨_, rfl, ?_⟩) | ((with_reducible refine gate_callee (f := 16) rfl ?_); refine goesL_ (some 17) rfl rfl Try.func16 (by kernel_rfl) rfl #[.int .i64 a1] rfl (by (try simp only [List.map_toArray, List.map_cons, List.map_nil]); first | done | rfl | (simp only [List.length_drop, List.length_take]; rfl)) ?_; (with_reducible refine (crossroadsref1_Mask.calls a1 t178 _ A7.out).mono ?_); rintro e w' ⟨rfl, ⟨nd, rfl⟩⟩; refine ⟨_, rfl, ?_⟩))
                              go_ret2
                              exact ⟨by first | rfl | (simp; done) | (simp only [← hji26, ← hji28] <;> (first | rfl | simp)) | (simp [*]; done), by repeat (first | exact Drawn0.refl _ | apply Drawn0.step)⟩
                            · rw [if_neg c27] at H
                              exact absurd H (by simp)
                        · rw [if_neg c24] at H
                          have c24b0 : (a0 == 13) = false := beq_eq_false_iff_ne.mpr c24
                          have c24b1 : (a0 != 13) = true := bne_iff_ne.mpr c24
                          by_cases c29 : a0 = 14
                          · rw [if_pos c29] at H
                            have c29b0 : (a0 == 14) = true := beq_iff_eq.mpr c29
                            have c29b1 : (a0 != 14) = false := bne_eq_false_iff_eq.mpr c29
                            clear c29
                            replace H := Option.bind_eq_some_iff.mp H
                            obtain ⟨t179, A300, H⟩ := H
                            replace H : (some (t179, 0)) = some (r1, r2) := H
                            have A30 := Aside0.mk A300
                            clear A300
                            simp only [Option.some.injEq, Prod.mk.injEq] at H
                            obtain ⟨rfl, rfl⟩ := H
                            go_enter Try.func11, Try.ntmps11
                            go_wp2_with (first | ((with_reducible refine gate_callee (f := 14) rfl ?_); refine goesL_ (some 14) rfl rfl Try.func14 (by kernel_rfl) rfl #[.int .i64 a1] rfl (by (try simp only [List.map_toArray, List.map_cons, List.map_nil]); first | done | rfl | (simp only [List.length_drop, List.length_take]; rfl)) ?_; (with_reducible refine (crossroadsref1_May.calls a1 true _ A5.out).mono ?_); rintro e w' ⟨rfl, ⟨nd, rfl⟩⟩; refine ⟨_, rfl, ?_⟩) | ((with_reducible refine gate_callee (f := 16) rfl ?_); refine goesL_ (some 17) rfl rfl Try.func16 (by kernel_rfl) rfl #[.int .i64 a1] rfl (by (try simp only [List.map_toArray, List.map_cons, List.map_nil]); first | done | rfl | (simp only [List.length_drop, List.length_take]; rfl)) ?_; (with_reducible refine (crossroadsref1_Mask.calls a1 t178 _ A7.out).mono ?_); rintro e w' ⟨rfl, ⟨nd, rfl⟩⟩; refine ⟨_, rfl, ?_⟩) | ((with_reducible refine gate_callee (f := 21) rfl ?_); refine goesL_ (some 128) rfl rfl Try.func21 (by kernel_rfl) rfl #[.bool ((wrap64 (Go.bits .and .u16 a2 t178)) == (wrap64 (Go.bits .and .u16 a3 t178)))] rfl (by (try simp only [List.map_toArray, List.map_cons, List.map_nil]); first | done | rfl | (simp only [List.length_drop, List.length_take]; rfl)) ?_; (with_reducible refine (crossroadsref1_bit.calls ((wrap64 (Go.bits .and .u16 a2 t178)) == (wrap64 (Go.bits .and .u16 a3 t178))) t179 _ A30.out).mono ?_); rintro e w' ⟨rfl, ⟨nd, rfl⟩⟩; refine ⟨_, rfl, ?_⟩))
                            go_ret2
                            exact ⟨by first | rfl | (simp; done) | (simp [*]; done), by repeat (first | exact Drawn0.refl _ | apply Drawn0.step)⟩
                          · rw [if_neg c29] at H
                            have c29b0 : (a0 == 14) = false := beq_eq_false_iff_ne.mpr c29
                            have c29b1 : (a0 != 14) = true := bne_iff_ne.mpr c29
                            by_cases c31 : a0 = 15
                            · rw [if_pos c31] at H
                              have c31b0 : (a0 == 15) = true := beq_iff_eq.mpr c31
                              have c31b1 : (a0 != 15) = false := bne_eq_false_iff_eq.mpr c31
                              clear c31
                              replace H := Option.bind_eq_some_iff.mp H
                              obtain ⟨t180, A320, H⟩ := H
                              replace H : (some (t180, 0)) = some (r1, r2) := H
                              have A32 := Aside0.mk A320
                              clear A320
                              simp only [Option.some.injEq, Prod.mk.injEq] at H
                              obtain ⟨rfl, rfl⟩ := H
                              go_enter Try.func11, Try.ntmps11
                              go_wp2_with (first | ((with_reducible refine gate_callee (f := 14) rfl ?_); refine goesL_ (some 14) rfl rfl Try.func14 (by kernel_rfl) rfl #[.int .i64 a1] rfl (by (try simp only [List.map_toArray, List.map_cons, List.map_nil]); first | done | rfl | (simp only [List.length_drop, List.length_take]; rfl)) ?_; (with_reducible refine (crossroadsref1_May.calls a1 true _ A5.out).mono ?_); rintro e w' ⟨rfl, ⟨nd, rfl⟩⟩; refine ⟨_, rfl, ?_⟩) | ((with_reducible refine gate_callee (f := 16) rfl ?_); refine goesL_ (some 17) rfl rfl Try.func16 (by kernel_rfl) rfl #[.int .i64 a1] rfl (by (try simp only [List.map_toArray, List.map_cons, List.map_nil]); first | done | rfl | (simp only [List.length_drop, List.length_take]; rfl)) ?_; (with_reducible refine (crossroadsref1_Mask.calls a1 t178 _ A7.out).mono ?_); rintro e w' ⟨rfl, ⟨nd, rfl⟩⟩; refine ⟨_, rfl, ?_⟩) | ((with_reducible refine gate_callee (f := 21) rfl ?_); refine goesL_ (some 134) rfl rfl Try.func21 (by kernel_rfl) rfl #[.bool (decide ((wrap64 (Go.bits .and .u16 a2 t178)) < (wrap64 (Go.bits .and .u16 a3 t178))))] rfl (by (try simp only [List.map_toArray, List.map_cons, List.map_nil]); first | done | rfl | (simp only [List.length_drop, List.length_take]; rfl)) ?_; (with_reducible refine (crossroadsref1_bit.calls (decide ((wrap64 (Go.bits .and .u16 a2 t178)) < (wrap64 (Go.bits .and .u16 a3 t178)))) t180 _ A32.out).mono ?_); rintro e w' ⟨rfl, ⟨nd, rfl⟩⟩; refine ⟨_, rfl, ?_⟩))
                              go_ret2
                              exact ⟨by first | rfl | (simp; done) | (simp [*]; done), by repeat (first | exact Drawn0.refl _ | apply Drawn0.step)⟩
                            · rw [if_neg c31] at H
                              have c31b0 : (a0 == 15) = false := beq_eq_false_iff_ne.mpr c31
                              have c31b1 : (a0 != 15) = true := bne_iff_ne.mpr c31
                              simp only [Option.some.injEq, Prod.mk.injEq] at H
                              obtain ⟨rfl, rfl⟩ := H
                              go_enter Try.func11, Try.ntmps11
                              go_wp2_with (first | ((with_reducible refine gate_callee (f := 14) rfl ?_); refine goesL_ (some 14) rfl rfl Try.func14 (by kernel_rfl) rfl #[.int .i64 a1] rfl (by (try simp only [List.map_toArray, List.map_cons, List.map_nil]); first | done | rfl | (simp only [List.length_drop, List.length_take]; rfl)) ?_; (with_reducible refine (crossroadsref1_May.calls a1 true _ A5.out).mono ?_); rintro e w' ⟨rfl, ⟨nd, rfl⟩⟩; refine ⟨_, rfl, ?_⟩) | ((with_reducible refine gate_callee (f := 16) rfl ?_); refine goesL_ (some 17) rfl rfl Try.func16 (by kernel_rfl) rfl #[.int .i64 a1] rfl (by (try simp only [List.map_toArray, List.map_cons, List.map_nil]); first | done | rfl | (simp only [List.length_drop, List.length_take]; rfl)) ?_; (with_reducible refine (crossroadsref1_Mask.calls a1 t178 _ A7.out).mono ?_); rintro e w' ⟨rfl, ⟨nd, rfl⟩⟩; refine ⟨_, rfl, ?_⟩))
                              go_ret2
                              exact ⟨by first | rfl | (simp; done) | (simp [*]; done), by repeat (first | exact Drawn0.refl _ | apply Drawn0.step)⟩
  · replace c6 := Bool.eq_false_iff.mpr c6
    subst c6
    have H1 : (some (0, 2)) = some (r1, r2) := by rw [if_neg (show ¬ (false = true) by decide)] at H; exact H
    clear H
    have H := H1
    clear H1
    simp only [Option.some.injEq, Prod.mk.injEq] at H
    obtain ⟨rfl, rfl⟩ := H
    go_enter Try.func11, Try.ntmps11
    go_wp2_with (first | ((with_reducible refine gate_callee (f := 14) rfl ?_); refine goesL_ (some 14) rfl rfl Try.func14 (by kernel_rfl) rfl #[.int .i64 a1] rfl (by (try simp only [List.map_toArray, List.map_cons, List.map_nil]); first | done | rfl | (simp only [List.length_drop, List.length_take]; rfl)) ?_; (with_reducible refine (crossroadsref1_May.calls a1 false _ A5.out).mono ?_); rintro e w' ⟨rfl, ⟨nd, rfl⟩⟩; refine ⟨_, rfl, ?_⟩))
    go_ret2
    exact ⟨by first | rfl | (simp; done) | (simp [*]; done), by repeat (first | exact Drawn0.refl _ | apply Drawn0.step)⟩

end Go.Proofs.Ytcjoblnfbopaeaa.P
