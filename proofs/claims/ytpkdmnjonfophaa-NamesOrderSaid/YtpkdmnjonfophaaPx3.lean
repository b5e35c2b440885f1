-- Laid by a program of this session (the kit's print, changed): Lean checks it.
import Derived.Test.YtpkdmnjonfophaaPx0
import Derived.Test.YtpkdmnjonfophaaPx1
import Derived.Test.YtpkdmnjonfophaaGName
namespace Go.Proofs.Ytpkdmnjonfophaa.G
end Go.Proofs.Ytpkdmnjonfophaa.G
namespace Go.Proofs.Ytpkdmnjonfophaa.P
open Go.Proofs.Ytpkdmnjonfophaa.G
open Go.RowKit Go.Proofs.YtpkdmnjonfophaaW.PrintWords Go.Proofs.YtpkdmnjonfophaaW.PrintLast Go.Proofs.YtpkdmnjonfophaaW.PrintMore
attribute [local go_sem] max2_int min2_int max_two min_two max_three min_three max_four min_four   -- for this text's walks alone
set_option linter.unusedVariables false
set_option linter.unusedSimpArgs false

/-! ### crossroadslaw12_NamesKnown: function 4 -/
mutual
def crossroadslaw12_NamesKnown.l0 : Nat → List ByteArray → List ByteArray → Int → Option (Bool)
  | 0, _, _, _ => none
  | k + 1, x1, x2, x3 => if x3 < (x1.length : Int) then (if 0 ≤ x3 then ((names_May.f k (rdOf ByteArray.empty x1 x3)).bind fun t152 => (if t152 = true then ((names_Deep.f k (rdOf ByteArray.empty x1 x3)).bind fun t154 => (if t154 < 1 then (none) else (crossroadslaw12_NamesKnown.l0 k x1 x2 (wrap64 (x3 + 1))))) else (none))) else (none)) else (crossroadslaw12_NamesKnown.l1 k x2 0)
def crossroadslaw12_NamesKnown.l1 : Nat → List ByteArray → Int → Option (Bool)
  | 0, _, _ => none
  | k + 1, x2, x4 => if x4 < (x2.length : Int) then (if 0 ≤ x4 then ((names_Split.f k (rdOf ByteArray.empty x2 x4)).bind fun bt156 => ((names_May.f k (rdOf ByteArray.empty x2 x4)).bind fun t159 => (if t159 = true then (none) else (if bt156.1.toList = ([] : List UInt8) then (if bt156.2.toList = ([] : List UInt8) then ((names_Deep.f k (rdOf ByteArray.empty x2 x4)).bind fun t161 => (if t161 = 0 then (crossroadslaw12_NamesKnown.l1 k x2 (wrap64 (x4 + 1))) else (none))) else (none)) else (none))))) else (none)) else ((names_Less.f k (⟨#[98]⟩ : ByteArray) (⟨#[97, 47, 97]⟩ : ByteArray)).bind fun t162 => (if t162 = true then ((names_Less.f k (⟨#[97, 47, 97]⟩ : ByteArray) (⟨#[98]⟩ : ByteArray)).bind fun t163 => (if t163 = true then (none) else ((names_Less.f k (⟨#[97, 47, 97]⟩ : ByteArray) (⟨#[97, 47, 98]⟩ : ByteArray)).bind fun t164 => (if t164 = true then ((names_Less.f k (⟨#[97]⟩ : ByteArray) (⟨#[97]⟩ : ByteArray)).bind fun t165 => (if t165 = true then (none) else ((names_Less.f k (⟨#[97, 47, 122]⟩ : ByteArray) (⟨#[98, 47, 97]⟩ : ByteArray)).bind fun t166 => (some t166)))) else (none))))) else (none)))
end
def crossroadslaw12_NamesKnown.f (k : Nat)  : Option (Bool) := (crossroadslaw12_awake.f k).bind fun t144 => (if t144 = true then (crossroadslaw12_NamesKnown.l0 k (([(⟨#[97]⟩ : ByteArray), (⟨#[97, 46, 98]⟩ : ByteArray), (⟨#[95]⟩ : ByteArray), (⟨#[97, 47, 98]⟩ : ByteArray), (⟨#[46, 46, 97]⟩ : ByteArray), (⟨#[49, 50, 51, 52, 53, 54, 55, 56]⟩ : ByteArray), (⟨#[97, 98, 99, 47, 100, 101, 102, 103]⟩ : ByteArray), (⟨#[48, 47, 48]⟩ : ByteArray)] : List ByteArray)) (([(⟨#[]⟩ : ByteArray), (⟨#[46]⟩ : ByteArray), (⟨#[46, 46]⟩ : ByteArray), (⟨#[47]⟩ : ByteArray), (⟨#[97, 47]⟩ : ByteArray), (⟨#[47, 97]⟩ : ByteArray), (⟨#[97, 47, 46]⟩ : ByteArray), (⟨#[46, 46, 47, 97]⟩ : ByteArray), (⟨#[97, 47, 98, 47, 99]⟩ : ByteArray), (⟨#[49, 50, 51, 52, 53, 54, 55, 56, 57]⟩ : ByteArray), (⟨#[65]⟩ : ByteArray), (⟨#[97, 32, 98]⟩ : ByteArray), (⟨#[97, 45, 98]⟩ : ByteArray), (⟨#[97, 98, 99, 100, 47, 101, 102, 103, 104]⟩ : ByteArray)] : List ByteArray)) 0) else (none))
theorem crossroadslaw12_NamesKnown.mono_l : ∀ k, (∀ y0 y1 y2, LeO (crossroadslaw12_NamesKnown.l0 k y0 y1 y2) (crossroadslaw12_NamesKnown.l0 (k + 1) y0 y1 y2)) ∧ (∀ y0 y1, LeO (crossroadslaw12_NamesKnown.l1 k y0 y1) (crossroadslaw12_NamesKnown.l1 (k + 1) y0 y1))
  | 0 => ⟨fun _ _ _ r h => by simp [crossroadslaw12_NamesKnown.l0] at h, fun _ _ r h => by simp [crossroadslaw12_NamesKnown.l1] at h⟩
  | k + 1 => by
    obtain ⟨ih0, ih1⟩ := crossroadslaw12_NamesKnown.mono_l k
    refine ⟨?_, ?_⟩
    · intro y0 y1 y2
      unfold crossroadslaw12_NamesKnown.l0
      repeat' first
      | (with_reducible exact ih0 _ _ _)
      | (with_reducible exact ih1 _ _)
      | (with_reducible exact crossroadslaw12_awake.mono _)
      | (with_reducible exact names_Deep.mono _ _)
      | (with_reducible exact names_Less.mono _ _ _)
      | (with_reducible exact names_May.mono _ _)
      | (with_reducible exact names_Split.mono _ _)
      | (with_reducible exact LeO.refl _)
      | (with_reducible exact LeO.none _)
      | (with_reducible refine LeO.ite ?_ ?_)
      | (with_reducible refine LeO.bind ?_ (fun _ => ?_))
      | exact ih0 _ _ _
      | exact ih1 _ _
      | exact crossroadslaw12_awake.mono _
      | exact names_Deep.mono _ _
      | exact names_Less.mono _ _ _
      | exact names_May.mono _ _
      | exact names_Split.mono _ _
      | exact LeO.none _
      | refine LeO.ite ?_ ?_
      | refine LeO.bind ?_ (fun _ => ?_)
    · intro y0 y1
      unfold crossroadslaw12_NamesKnown.l1
      repeat' first
      | (with_reducible exact ih0 _ _ _)
      | (with_reducible exact ih1 _ _)
      | (with_reducible exact crossroadslaw12_awake.mono _)
      | (with_reducible exact names_Deep.mono _ _)
      | (with_reducible exact names_Less.mono _ _ _)
      | (with_reducible exact names_May.mono _ _)
      | (with_reducible exact names_Split.mono _ _)
      | (with_reducible exact LeO.refl _)
      | (with_reducible exact LeO.none _)
      | (with_reducible refine LeO.ite ?_ ?_)
      | (with_reducible refine LeO.bind ?_ (fun _ => ?_))
      | exact ih0 _ _ _
      | exact ih1 _ _
      | exact crossroadslaw12_awake.mono _
      | exact names_Deep.mono _ _
      | exact names_Less.mono _ _ _
      | exact names_May.mono _ _
      | exact names_Split.mono _ _
      | exact LeO.none _
      | refine LeO.ite ?_ ?_
      | refine LeO.bind ?_ (fun _ => ?_)
theorem crossroadslaw12_NamesKnown.mono : ∀ k, LeO (crossroadslaw12_NamesKnown.f k ) (crossroadslaw12_NamesKnown.f (k + 1) ) := by
  intro  k
  obtain ⟨ih0, ih1⟩ := crossroadslaw12_NamesKnown.mono_l k
  unfold crossroadslaw12_NamesKnown.f
  repeat' first
      | (with_reducible exact ih0 _ _ _)
      | (with_reducible exact ih1 _ _)
      | (with_reducible exact crossroadslaw12_awake.mono _)
      | (with_reducible exact names_Deep.mono _ _)
      | (with_reducible exact names_Less.mono _ _ _)
      | (with_reducible exact names_May.mono _ _)
      | (with_reducible exact names_Split.mono _ _)
      | (with_reducible exact LeO.refl _)
      | (with_reducible exact LeO.none _)
      | (with_reducible refine LeO.ite ?_ ?_)
      | (with_reducible refine LeO.bind ?_ (fun _ => ?_))
      | exact ih0 _ _ _
      | exact ih1 _ _
      | exact crossroadslaw12_awake.mono _
      | exact names_Deep.mono _ _
      | exact names_Less.mono _ _ _
      | exact names_May.mono _ _
      | exact names_Split.mono _ _
      | exact LeO.none _
      | refine LeO.ite ?_ ?_
      | refine LeO.bind ?_ (fun _ => ?_)
set_option maxHeartbeats 8000000 in
set_option maxRecDepth 100000 in
theorem crossroadslaw12_NamesKnown.calls (k : Nat)  (r : Bool) (w : World) (h : crossroadslaw12_NamesKnown.f k  = some r) :
    Calls Try.prog 4 #[] w fun e w' => e = .returned (.bool r) ∧ Below w.heap.size w w' := by
  have HB := Aside0.mk (Below.refl w.heap.size w)
  have H : ((crossroadslaw12_awake.f k).bind fun t144 => (if t144 = true then (crossroadslaw12_NamesKnown.l0 k (([(⟨#[97]⟩ : ByteArray), (⟨#[97, 46, 98]⟩ : ByteArray), (⟨#[95]⟩ : ByteArray), (⟨#[97, 47, 98]⟩ : ByteArray), (⟨#[46, 46, 97]⟩ : ByteArray), (⟨#[49, 50, 51, 52, 53, 54, 55, 56]⟩ : ByteArray), (⟨#[97, 98, 99, 47, 100, 101, 102, 103]⟩ : ByteArray), (⟨#[48, 47, 48]⟩ : ByteArray)] : List ByteArray)) (([(⟨#[]⟩ : ByteArray), (⟨#[46]⟩ : ByteArray), (⟨#[46, 46]⟩ : ByteArray), (⟨#[47]⟩ : ByteArray), (⟨#[97, 47]⟩ : ByteArray), (⟨#[47, 97]⟩ : ByteArray), (⟨#[97, 47, 46]⟩ : ByteArray), (⟨#[46, 46, 47, 97]⟩ : ByteArray), (⟨#[97, 47, 98, 47, 99]⟩ : ByteArray), (⟨#[49, 50, 51, 52, 53, 54, 55, 56, 57]⟩ : ByteArray), (⟨#[65]⟩ : ByteArray), (⟨#[97, 32, 98]⟩ : ByteArray), (⟨#[97, 45, 98]⟩ : ByteArray), (⟨#[97, 98, 99, 100, 47, 101, 102, 103, 104]⟩ : ByteArray)] : List ByteArray)) 0) else (none))) = some r := h
  clear h
  replace H := Option.bind_eq_some_iff.mp H
  obtain ⟨t144, A10, H⟩ := H
  replace H : (if t144 = true then (crossroadslaw12_NamesKnown.l0 k (([(⟨#[97]⟩ : ByteArray), (⟨#[97, 46, 98]⟩ : ByteArray), (⟨#[95]⟩ : ByteArray), (⟨#[97, 47, 98]⟩ : ByteArray), (⟨#[46, 46, 97]⟩ : ByteArray), (⟨#[49, 50, 51, 52, 53, 54, 55, 56]⟩ : ByteArray), (⟨#[97, 98, 99, 47, 100, 101, 102, 103]⟩ : ByteArray), (⟨#[48, 47, 48]⟩ : ByteArray)] : List ByteArray)) (([(⟨#[]⟩ : ByteArray), (⟨#[46]⟩ : ByteArray), (⟨#[46, 46]⟩ : ByteArray), (⟨#[47]⟩ : ByteArray), (⟨#[97, 47]⟩ : ByteArray), (⟨#[47, 97]⟩ : ByteArray), (⟨#[97, 47, 46]⟩ : ByteArray), (⟨#[46, 46, 47, 97]⟩ : ByteArray), (⟨#[97, 47, 98, 47, 99]⟩ : ByteArray), (⟨#[49, 50, 51, 52, 53, 54, 55, 56, 57]⟩ : ByteArray), (⟨#[65]⟩ : ByteArray), (⟨#[97, 32, 98]⟩ : ByteArray), (⟨#[97, 45, 98]⟩ : ByteArray), (⟨#[97, 98, 99, 100, 47, 101, 102, 103, 104]⟩ : ByteArray)] : List ByteArray)) 0) else (none)) = some r := H
  have A1 := Aside0.mk A10
  clear A10
  by_cases c2 : t144 = true
  · subst c2
    have H1 : (crossroadslaw12_NamesKnown.l0 k (([(⟨#[97]⟩ : ByteArray), (⟨#[97, 46, 98]⟩ : ByteArray), (⟨#[95]⟩ : ByteArray), (⟨#[97, 47, 98]⟩ : ByteArray), (⟨#[46, 46, 97]⟩ : ByteArray), (⟨#[49, 50, 51, 52, 53, 54, 55, 56]⟩ : ByteArray), (⟨#[97, 98, 99, 47, 100, 101, 102, 103]⟩ : ByteArray), (⟨#[48, 47, 48]⟩ : ByteArray)] : List ByteArray)) (([(⟨#[]⟩ : ByteArray), (⟨#[46]⟩ : ByteArray), (⟨#[46, 46]⟩ : ByteArray), (⟨#[47]⟩ : ByteArray), (⟨#[97, 47]⟩ : ByteArray), (⟨#[47, 97]⟩ : ByteArray), (⟨#[97, 47, 46]⟩ : ByteArray), (⟨#[46, 46, 47, 97]⟩ : ByteArray), (⟨#[97, 47, 98, 47, 99]⟩ : ByteArray), (⟨#[49, 50, 51, 52, 53, 54, 55, 56, 57]⟩ : ByteArray), (⟨#[65]⟩ : ByteArray), (⟨#[97, 32, 98]⟩ : ByteArray), (⟨#[97, 45, 98]⟩ : ByteArray), (⟨#[97, 98, 99, 100, 47, 101, 102, 103, 104]⟩ : ByteArray)] : List ByteArray)) 0) = some r := by rw [if_pos rfl] at H; exact H
    clear H
    have H := H1
    clear H1
    obtain ⟨y145, hy145⟩ : ∃ y_ : List ByteArray, y_ = (([(⟨#[97]⟩ : ByteArray), (⟨#[97, 46, 98]⟩ : ByteArray), (⟨#[95]⟩ : ByteArray), (⟨#[97, 47, 98]⟩ : ByteArray), (⟨#[46, 46, 97]⟩ : ByteArray), (⟨#[49, 50, 51, 52, 53, 54, 55, 56]⟩ : ByteArray), (⟨#[97, 98, 99, 47, 100, 101, 102, 103]⟩ : ByteArray), (⟨#[48, 47, 48]⟩ : ByteArray)] : List ByteArray)) := ⟨_, rfl⟩
    replace H : (crossroadslaw12_NamesKnown.l0 k y145 (([(⟨#[]⟩ : ByteArray), (⟨#[46]⟩ : ByteArray), (⟨#[46, 46]⟩ : ByteArray), (⟨#[47]⟩ : ByteArray), (⟨#[97, 47]⟩ : ByteArray), (⟨#[47, 97]⟩ : ByteArray), (⟨#[97, 47, 46]⟩ : ByteArray), (⟨#[46, 46, 47, 97]⟩ : ByteArray), (⟨#[97, 47, 98, 47, 99]⟩ : ByteArray), (⟨#[49, 50, 51, 52, 53, 54, 55, 56, 57]⟩ : ByteArray), (⟨#[65]⟩ : ByteArray), (⟨#[97, 32, 98]⟩ : ByteArray), (⟨#[97, 45, 98]⟩ : ByteArray), (⟨#[97, 98, 99, 100, 47, 101, 102, 103, 104]⟩ : ByteArray)] : List ByteArray)) 0) = some r := by first | (rw [hy145]; with_reducible exact H) | (have H2_ := (Option.bind_some _ _).symm.trans H; rw [hy145]; with_reducible exact H2_) | (have H2_ := (Option.bind_some _ _).symm.trans H; with_reducible exact H2_) | with_reducible exact H | (rw [hy145]; exact H) | exact H
    have Ny145 := Aside0.mk hy145
    clear hy145
    obtain ⟨y148, hy148⟩ : ∃ y_ : List ByteArray, y_ = (([(⟨#[]⟩ : ByteArray), (⟨#[46]⟩ : ByteArray), (⟨#[46, 46]⟩ : ByteArray), (⟨#[47]⟩ : ByteArray), (⟨#[97, 47]⟩ : ByteArray), (⟨#[47, 97]⟩ : ByteArray), (⟨#[97, 47, 46]⟩ : ByteArray), (⟨#[46, 46, 47, 97]⟩ : ByteArray), (⟨#[97, 47, 98, 47, 99]⟩ : ByteArray), (⟨#[49, 50, 51, 52, 53, 54, 55, 56, 57]⟩ : ByteArray), (⟨#[65]⟩ : ByteArray), (⟨#[97, 32, 98]⟩ : ByteArray), (⟨#[97, 45, 98]⟩ : ByteArray), (⟨#[97, 98, 99, 100, 47, 101, 102, 103, 104]⟩ : ByteArray)] : List ByteArray)) := ⟨_, rfl⟩
    replace H : (crossroadslaw12_NamesKnown.l0 k y145 y148 0) = some r := by first | (rw [hy148]; with_reducible exact H) | (have H2_ := (Option.bind_some _ _).symm.trans H; rw [hy148]; with_reducible exact H2_) | (have H2_ := (Option.bind_some _ _).symm.trans H; with_reducible exact H2_) | with_reducible exact H | (rw [hy148]; exact H) | exact H
    have Ny148 := Aside0.mk hy148
    clear hy148
    have H' := Aside0.mk H
    clear H
    go_enter Try.func4, Try.ntmps4
    go_wp2_with (first | ((with_reducible refine gate_callee (f := 7) rfl ?_); refine goesL_ (some 7) rfl rfl Try.func7 (by kernel_rfl) rfl #[] rfl (by (try simp only [List.map_toArray, List.map_cons, List.map_nil]); first | done | rfl | (simp only [List.length_drop, List.length_take]; rfl)) ?_; (with_reducible refine (crossroadslaw12_awake.calls k  true _ A1.out).mono ?_); rintro e w3 ⟨rfl, hb⟩; refine ⟨_, rfl, ?_⟩; have n0_ := Aside0.mk (below_step (by repeat (first | (with_reducible first | exact HB.out | apply below_alloc | apply pw_below_drewN | apply below_drew1) | exact HB.out)) hb); clear HB; have HB := n0_; clear n0_; (try clear hb); (try clear hb2); (try clear hk); (try clear hi)) | ((with_reducible refine gate_dst (N := 9) rfl ?_); refine Kd.R_lit Kd.string _ 9 ?hg (N := 9) ?hd (xs := ([(⟨#[97]⟩ : ByteArray), (⟨#[97, 46, 98]⟩ : ByteArray), (⟨#[95]⟩ : ByteArray), (⟨#[97, 47, 98]⟩ : ByteArray), (⟨#[46, 46, 97]⟩ : ByteArray), (⟨#[49, 50, 51, 52, 53, 54, 55, 56]⟩ : ByteArray), (⟨#[97, 98, 99, 47, 100, 101, 102, 103]⟩ : ByteArray), (⟨#[48, 47, 48]⟩ : ByteArray)] : List ByteArray)) (inner := [.string (⟨#[97]⟩ : ByteArray), .string (⟨#[97, 46, 98]⟩ : ByteArray), .string (⟨#[95]⟩ : ByteArray), .string (⟨#[97, 47, 98]⟩ : ByteArray), .string (⟨#[46, 46, 97]⟩ : ByteArray), .string (⟨#[49, 50, 51, 52, 53, 54, 55, 56]⟩ : ByteArray), .string (⟨#[97, 98, 99, 47, 100, 101, 102, 103]⟩ : ByteArray), .string (⟨#[48, 47, 48]⟩ : ByteArray)]) (ok := fun _ => True) (okp := fun _ => True) ?hr ?hp (fun _ hk => hk) trivial (Below.refl _ _) (Nat.le_refl _) (by simp) ?_; (case hd => rfl); (case hg => rfl); (case hr => first | (go_simp; done) | (go_simp; rfl)); (case hp => exact (Reps.one (show Kd.M Kd.string _ _ _ (⟨#[97]⟩ : ByteArray) [.string (⟨#[97]⟩ : ByteArray)] from rfl) (Reps.one (show Kd.M Kd.string _ _ _ (⟨#[97, 46, 98]⟩ : ByteArray) [.string (⟨#[97, 46, 98]⟩ : ByteArray)] from rfl) (Reps.one (show Kd.M Kd.string _ _ _ (⟨#[95]⟩ : ByteArray) [.string (⟨#[95]⟩ : ByteArray)] from rfl) (Reps.one (show Kd.M Kd.string _ _ _ (⟨#[97, 47, 98]⟩ : ByteArray) [.string (⟨#[97, 47, 98]⟩ : ByteArray)] from rfl) (Reps.one (show Kd.M Kd.string _ _ _ (⟨#[46, 46, 97]⟩ : ByteArray) [.string (⟨#[46, 46, 97]⟩ : ByteArray)] from rfl) (Reps.one (show Kd.M Kd.string _ _ _ (⟨#[49, 50, 51, 52, 53, 54, 55, 56]⟩ : ByteArray) [.string (⟨#[49, 50, 51, 52, 53, 54, 55, 56]⟩ : ByteArray)] from rfl) (Reps.one (show Kd.M Kd.string _ _ _ (⟨#[97, 98, 99, 47, 100, 101, 102, 103]⟩ : ByteArray) [.string (⟨#[97, 98, 99, 47, 100, 101, 102, 103]⟩ : ByteArray)] from rfl) (Reps.one (show Kd.M Kd.string _ _ _ (⟨#[48, 47, 48]⟩ : ByteArray) [.string (⟨#[48, 47, 48]⟩ : ByteArray)] from rfl) (Reps.none _ _)))))))))); intro v146 w4 ho5 hb hg_ hnew_; clear hg_ hnew_; (first | rw [← Ny145.out] at ho5 | (simp only [Int.reduceToNat] at ho5; rw [← Ny145.out] at ho5)); have n0_ := Aside0.mk (Kd.R_lower ho5 (below_size (by repeat (first | (with_reducible first | exact HB.out | apply below_alloc | apply pw_below_drewN | apply below_drew1) | exact HB.out)))); have n1_ := Aside0.mk (below_step (by repeat (first | (with_reducible first | exact HB.out | apply below_alloc | apply pw_below_drewN | apply below_drew1) | exact HB.out)) hb); clear HB; have HO147 := n0_; have HB := n1_; clear n0_ n1_; clear hb ho5) | ((with_reducible refine gate_dst (N := 10) rfl ?_); refine Kd.R_lit Kd.string _ 9 ?hg (N := 10) ?hd (xs := ([(⟨#[]⟩ : ByteArray), (⟨#[46]⟩ : ByteArray), (⟨#[46, 46]⟩ : ByteArray), (⟨#[47]⟩ : ByteArray), (⟨#[97, 47]⟩ : ByteArray), (⟨#[47, 97]⟩ : ByteArray), (⟨#[97, 47, 46]⟩ : ByteArray), (⟨#[46, 46, 47, 97]⟩ : ByteArray), (⟨#[97, 47, 98, 47, 99]⟩ : ByteArray), (⟨#[49, 50, 51, 52, 53, 54, 55, 56, 57]⟩ : ByteArray), (⟨#[65]⟩ : ByteArray), (⟨#[97, 32, 98]⟩ : ByteArray), (⟨#[97, 45, 98]⟩ : ByteArray), (⟨#[97, 98, 99, 100, 47, 101, 102, 103, 104]⟩ : ByteArray)] : List ByteArray)) (inner := [.string (⟨#[]⟩ : ByteArray), .string (⟨#[46]⟩ : ByteArray), .string (⟨#[46, 46]⟩ : ByteArray), .string (⟨#[47]⟩ : ByteArray), .string (⟨#[97, 47]⟩ : ByteArray), .string (⟨#[47, 97]⟩ : ByteArray), .string (⟨#[97, 47, 46]⟩ : ByteArray), .string (⟨#[46, 46, 47, 97]⟩ : ByteArray), .string (⟨#[97, 47, 98, 47, 99]⟩ : ByteArray), .string (⟨#[49, 50, 51, 52, 53, 54, 55, 56, 57]⟩ : ByteArray), .string (⟨#[65]⟩ : ByteArray), .string (⟨#[97, 32, 98]⟩ : ByteArray), .string (⟨#[97, 45, 98]⟩ : ByteArray), .string (⟨#[97, 98, 99, 100, 47, 101, 102, 103, 104]⟩ : ByteArray)]) (ok := fun _ => True) (okp := fun _ => True) ?hr ?hp (fun _ hk => hk) trivial (Below.refl _ _) (Nat.le_refl _) (by simp) ?_; (case hd => rfl); (case hg => rfl); (case hr => first | (go_simp; done) | (go_simp; rfl)); (case hp => exact (Reps.one (show Kd.M Kd.string _ _ _ (⟨#[]⟩ : ByteArray) [.string (⟨#[]⟩ : ByteArray)] from rfl) (Reps.one (show Kd.M Kd.string _ _ _ (⟨#[46]⟩ : ByteArray) [.string (⟨#[46]⟩ : ByteArray)] from rfl) (Reps.one (show Kd.M Kd.string _ _ _ (⟨#[46, 46]⟩ : ByteArray) [.string (⟨#[46, 46]⟩ : ByteArray)] from rfl) (Reps.one (show Kd.M Kd.string _ _ _ (⟨#[47]⟩ : ByteArray) [.string (⟨#[47]⟩ : ByteArray)] from rfl) (Reps.one (show Kd.M Kd.string _ _ _ (⟨#[97, 47]⟩ : ByteArray) [.string (⟨#[97, 47]⟩ : ByteArray)] from rfl) (Reps.one (show Kd.M Kd.string _ _ _ (⟨#[47, 97]⟩ : ByteArray) [.string (⟨#[47, 97]⟩ : ByteArray)] from rfl) (Reps.one (show Kd.M Kd.string _ _ _ (⟨#[97, 47, 46]⟩ : ByteArray) [.string (⟨#[97, 47, 46]⟩ : ByteArray)] from rfl) (Reps.one (show Kd.M Kd.string _ _ _ (⟨#[46, 46, 47, 97]⟩ : ByteArray) [.string (⟨#[46, 46, 47, 97]⟩ : ByteArray)] from rfl) (Reps.one (show Kd.M Kd.string _ _ _ (⟨#[97, 47, 98, 47, 99]⟩ : ByteArray) [.string (⟨#[97, 47, 98, 47, 99]⟩ : ByteArray)] from rfl) (Reps.one (show Kd.M Kd.string _ _ _ (⟨#[49, 50, 51, 52, 53, 54, 55, 56, 57]⟩ : ByteArray) [.string (⟨#[49, 50, 51, 52, 53, 54, 55, 56, 57]⟩ : ByteArray)] from rfl) (Reps.one (show Kd.M Kd.string _ _ _ (⟨#[65]⟩ : ByteArray) [.string (⟨#[65]⟩ : ByteArray)] from rfl) (Reps.one (show Kd.M Kd.string _ _ _ (⟨#[97, 32, 98]⟩ : ByteArray) [.string (⟨#[97, 32, 98]⟩ : ByteArray)] from rfl) (Reps.one (show Kd.M Kd.string _ _ _ (⟨#[97, 45, 98]⟩ : ByteArray) [.string (⟨#[97, 45, 98]⟩ : ByteArray)] from rfl) (Reps.one (show Kd.M Kd.string _ _ _ (⟨#[97, 98, 99, 100, 47, 101, 102, 103, 104]⟩ : ByteArray) [.string (⟨#[97, 98, 99, 100, 47, 101, 102, 103, 104]⟩ : ByteArray)] from rfl) (Reps.none _ _)))))))))))))))); intro v149 w6 ho7 hb hg_ hnew_; clear hg_ hnew_; (first | rw [← Ny148.out] at ho7 | (simp only [Int.reduceToNat] at ho7; rw [← Ny148.out] at ho7)); have n0_ := Aside0.mk (Kd.R_elder' (by (with_reducible repeat (first | apply Kd.R_alloc | apply Kd.R_drewN | apply Kd.R_drew)); exact HO147.out) (Kd.R_base ho7) hb); have n1_ := Aside0.mk (Kd.R_lower (Kd.R_new' ho7 (Kd.R_lt (by (with_reducible repeat (first | apply Kd.R_alloc | apply Kd.R_drewN | apply Kd.R_drew)); exact HO147.out))) (below_size (by repeat (first | (with_reducible first | exact HB.out | apply below_alloc | apply pw_below_drewN | apply below_drew1) | exact HB.out)))); have n2_ := Aside0.mk (below_step (by repeat (first | (with_reducible first | exact HB.out | apply below_alloc | apply pw_below_drewN | apply below_drew1) | exact HB.out)) hb); clear HO147; clear HB; have HO147 := n0_; have HO150 := n1_; have HB := n2_; clear n0_ n1_ n2_; clear hb ho7))
    go_loopg [3] k (fun kq v3 w' => ∃ (x3_1 : Int), v3 = .int .i64 x3_1 ∧ Aside0 (crossroadslaw12_NamesKnown.l0 kq y145 y148 x3_1 = some r) ∧ Aside0 (kq ≤ k) ∧ Aside0 (Kd.R Kd.string 9 w' w.heap.size (fun k_ => some k_ ≠ (v149 : Value).ownBlock) v146 y145) ∧ Aside0 (Kd.R Kd.string 9 w' w.heap.size (fun k_ => some k_ ≠ (v146 : Value).ownBlock) v149 y148) ∧ Aside0 (Below w.heap.size w w'))
    case atStart => exact ⟨(0), (by first | rfl | (simp; done) | (simp [*]; done)), H', ⟨Nat.le_refl _⟩, ⟨by (with_reducible repeat (first | apply Kd.R_alloc | apply Kd.R_drewN | apply Kd.R_drew)); exact Kd.R_mono HO147.out (fun _ hk => hk.2)⟩, ⟨by (with_reducible repeat (first | apply Kd.R_alloc | apply Kd.R_drewN | apply Kd.R_drew)); exact Kd.R_mono HO150.out (fun _ hk => hk.2)⟩, ⟨by repeat (first | (with_reducible first | exact HB.out | apply below_alloc | apply pw_below_drewN | apply below_drew1) | exact HB.out)⟩⟩
    case round =>
      clear H'
      try clear c2
      try clear p2
      try clear c4
      try clear c7
      obtain ⟨x3_1, rfl, HA, HK1, HO_1, HO_2, HB⟩ := hrel
      cases gk with
      | zero => exact absurd HA.out (by simp [crossroadslaw12_NamesKnown.l0])
      | succ k1 =>
        have H := HA.out
        clear HA
        simp only [crossroadslaw12_NamesKnown.l0] at H
        by_cases c8 : x3_1 < (y145.length : Int)
        · rw [if_pos c8] at H
          have c8b0 : decide (x3_1 < (y145.length : Int)) = true := decide_eq_true c8
          clear c8
          by_cases c9 : 0 ≤ x3_1
          · rw [if_pos c9] at H
            have c9b0 : decide (0 ≤ x3_1) = true := decide_eq_true c9
            clear c9
            replace H := Option.bind_eq_some_iff.mp H
            obtain ⟨t152, A100, H⟩ := H
            replace H : (if t152 = true then ((names_Deep.f k1 (rdOf ByteArray.empty y145 x3_1)).bind fun t154 => (if t154 < 1 then (none) else (crossroadslaw12_NamesKnown.l0 k1 y145 y148 (wrap64 (x3_1 + 1))))) else (none)) = some r := H
            have A10 := Aside0.mk A100
            clear A100
            by_cases c11 : t152 = true
            · subst c11
              have H1 : ((names_Deep.f k1 (rdOf ByteArray.empty y145 x3_1)).bind fun t154 => (if t154 < 1 then (none) else (crossroadslaw12_NamesKnown.l0 k1 y145 y148 (wrap64 (x3_1 + 1))))) = some r := by rw [if_pos rfl] at H; exact H
              clear H
              have H := H1
              clear H1
              replace H := Option.bind_eq_some_iff.mp H
              obtain ⟨t154, A120, H⟩ := H
              replace H : (if t154 < 1 then (none) else (crossroadslaw12_NamesKnown.l0 k1 y145 y148 (wrap64 (x3_1 + 1)))) = some r := H
              have A12 := Aside0.mk A120
              clear A120
              by_cases c13 : t154 < 1
              · rw [if_pos c13] at H
                exact absurd H (by simp)
              · rw [if_neg c13] at H
                have c13b0 : decide (t154 < 1) = false := decide_eq_false c13
                clear c13
                have H' := Aside0.mk H
                clear H
                obtain ⟨Ao14, co14, eo14⟩ := Kd.R_slice HO_1.out
                subst eo14
                have p151 : 0 ≤ (x3_1 : Int) := of_decide_eq_true (by first | (with_reducible assumption) | assumption)
                have q151 : x3_1 < (y145.length : Int) := of_decide_eq_true (by first | (with_reducible assumption) | assumption)
                (try (obtain ⟨Aoo151, coo151, eoo151⟩ := Kd.R_slice HO_1.out; subst eoo151))
                obtain ⟨ad151, e151, hx151_0⟩ := Kd.at_string (Kd.R_reads' HO_1.out).2.2 x3_1 p151 q151
                cases e151
                replace p151 := eq_true p151
                replace q151 := eq_true q151
                go_wp2_with (first | ((with_reducible refine gate_callee (f := 11) rfl ?_); refine goesL_ (some 21) rfl rfl Try.func11 (by kernel_rfl) rfl #[.string (rdOf ByteArray.empty y145 x3_1)] rfl (by (try simp only [List.map_toArray, List.map_cons, List.map_nil]); first | done | rfl | (simp only [List.length_drop, List.length_take]; rfl)) ?_; (with_reducible refine (names_May.calls k1 (rdOf ByteArray.empty y145 x3_1) true _ A10.out).mono ?_); rintro e w' ⟨rfl, ⟨nd, rfl⟩⟩; refine ⟨_, rfl, ?_⟩; have p153 : 0 ≤ (x3_1 : Int) := of_decide_eq_true (by first | (with_reducible assumption) | assumption); have q153 : x3_1 < (y145.length : Int) := of_decide_eq_true (by first | (with_reducible assumption) | assumption); (try (obtain ⟨Aoo153, coo153, eoo153⟩ := Kd.R_slice HO_1.out; subst eoo153)); obtain ⟨ad153, e153, hx153_0⟩ := Kd.at_string (Kd.R_reads' HO_1.out).2.2 x3_1 p153 q153; obtain rfl : ad151 = ad153 := (by injection e153); replace p153 := eq_true p153; replace q153 := eq_true q153) | (go_at_call 12; (with_reducible refine (names_Deep.calls k1 (rdOf ByteArray.empty y145 x3_1) t154 _ A12.out).mono ?_); rintro e w' ⟨rfl, ⟨nd, rfl⟩⟩))
                go_roundg k1
                case measure => have := HK1.out; omega
                case rel => exact ⟨(wrap64 (x3_1 + 1)), (by first | rfl | (simp; done) | (simp [*]; done)), H', ⟨by have := HK1.out; omega⟩, ⟨by (with_reducible repeat (first | apply Kd.R_alloc | apply Kd.R_drewN | apply Kd.R_drew)); exact HO_1.out⟩, ⟨by (with_reducible repeat (first | apply Kd.R_alloc | apply Kd.R_drewN | apply Kd.R_drew)); exact HO_2.out⟩, ⟨by repeat (first | (with_reducible first | exact HB.out | apply below_alloc | apply pw_below_drewN | apply below_drew1) | exact HB.out)⟩⟩
            · replace c11 := Bool.eq_false_iff.mpr c11
              subst c11
              have H1 : (none) = some r := by rw [if_neg (show ¬ (false = true) by decide)] at H; exact H
              clear H
              have H := H1
              clear H1
              exact absurd H (by simp)
          · rw [if_neg c9] at H
            exact absurd H (by simp)
        · rw [if_neg c8] at H
          have c8b0 : decide (x3_1 < (y145.length : Int)) = false := decide_eq_false c8
          clear c8
          have H' := Aside0.mk H
          clear H
          obtain ⟨Ao15, co15, eo15⟩ := Kd.R_slice HO_1.out
          subst eo15
          go_wp2
          go_loopg [4] k1 (fun kq v4 w' => ∃ (x4_2 : Int), v4 = .int .i64 x4_2 ∧ Aside0 (crossroadslaw12_NamesKnown.l1 kq y148 x4_2 = some r) ∧ Aside0 (kq ≤ k1) ∧ Aside0 (Kd.R Kd.string 9 w' w.heap.size (fun _ => True) v149 y148) ∧ Aside0 (Below w.heap.size w w'))
          case atStart => exact ⟨(0), (by first | rfl | (simp; done) | (simp [*]; done)), H', ⟨Nat.le_refl _⟩, ⟨by (with_reducible repeat (first | apply Kd.R_alloc | apply Kd.R_drewN | apply Kd.R_drew)); exact Kd.R_mono HO_2.out (fun _ hk => trivial)⟩, ⟨by repeat (first | (with_reducible first | exact HB.out | apply below_alloc | apply pw_below_drewN | apply below_drew1) | exact HB.out)⟩⟩
          case round =>
            clear H'
            try clear c1
            try clear p1
            try clear q1
            try clear hx1
            try clear c2
            try clear p2
            try clear c4
            try clear p6
            try clear c7
            try clear c8
            try clear c8b0
            try clear c9
            try clear c9b0
            try clear c11
            try clear c13
            try clear c13b0
            try clear p15
            try clear q15
            try clear hx15
            try clear hx151_0
            try clear hx153_0
            try clear p151
            try clear p153
            try clear p2
            try clear q151
            try clear q153
            obtain ⟨x4_2, rfl, HA, HK2, HO_2, HB⟩ := hrel
            cases gk with
            | zero => exact absurd HA.out (by simp [crossroadslaw12_NamesKnown.l1])
            | succ k2 =>
              have H := HA.out
              clear HA
              simp only [crossroadslaw12_NamesKnown.l1] at H
              by_cases c16 : x4_2 < (y148.length : Int)
              · rw [if_pos c16] at H
                have c16b0 : decide (x4_2 < (y148.length : Int)) = true := decide_eq_true c16
                clear c16
                by_cases c17 : 0 ≤ x4_2
                · rw [if_pos c17] at H
                  have c17b0 : decide (0 ≤ x4_2) = true := decide_eq_true c17
                  clear c17
                  replace H := Option.bind_eq_some_iff.mp H
                  obtain ⟨⟨t156, t157⟩, A180, H⟩ := H
                  replace H : ((names_May.f k2 (rdOf ByteArray.empty y148 x4_2)).bind fun t159 => (if t159 = true then (none) else (if t156.toList = ([] : List UInt8) then (if t157.toList = ([] : List UInt8) then ((names_Deep.f k2 (rdOf ByteArray.empty y148 x4_2)).bind fun t161 => (if t161 = 0 then (crossroadslaw12_NamesKnown.l1 k2 y148 (wrap64 (x4_2 + 1))) else (none))) else (none)) else (none)))) = some r := H
                  have A18 := Aside0.mk A180
                  clear A180
                  replace H := Option.bind_eq_some_iff.mp H
                  obtain ⟨t159, A190, H⟩ := H
                  replace H : (if t159 = true then (none) else (if t156.toList = ([] : List UInt8) then (if t157.toList = ([] : List UInt8) then ((names_Deep.f k2 (rdOf ByteArray.empty y148 x4_2)).bind fun t161 => (if t161 = 0 then (crossroadslaw12_NamesKnown.l1 k2 y148 (wrap64 (x4_2 + 1))) else (none))) else (none)) else (none))) = some r := H
                  have A19 := Aside0.mk A190
                  clear A190
                  by_cases c20 : t159 = true
                  · subst c20
                    have H1 : (none) = some r := by rw [if_pos rfl] at H; exact H
                    clear H
                    have H := H1
                    clear H1
                    exact absurd H (by simp)
                  · replace c20 := Bool.eq_false_iff.mpr c20
                    subst c20
                    have H1 : (if t156.toList = ([] : List UInt8) then (if t157.toList = ([] : List UInt8) then ((names_Deep.f k2 (rdOf ByteArray.empty y148 x4_2)).bind fun t161 => (if t161 = 0 then (crossroadslaw12_NamesKnown.l1 k2 y148 (wrap64 (x4_2 + 1))) else (none))) else (none)) else (none)) = some r := by rw [if_neg (show ¬ (false = true) by decide)] at H; exact H
                    clear H
                    have H := H1
                    clear H1
                    by_cases c21 : t156.toList = ([] : List UInt8)
                    · rw [if_pos c21] at H
                      have c21b0 : (t156.toList == ([] : List UInt8)) = true := beq_iff_eq.mpr c21
                      have c21b1 : (t156.toList != ([] : List UInt8)) = false := bne_eq_false_iff_eq.mpr c21
                      have c21b2 : t156.toList.isEmpty = true := List.isEmpty_iff.mpr c21
                      clear c21
                      by_cases c22 : t157.toList = ([] : List UInt8)
                      · rw [if_pos c22] at H
                        have c22b0 : (t157.toList == ([] : List UInt8)) = true := beq_iff_eq.mpr c22
                        have c22b1 : (t157.toList != ([] : List UInt8)) = false := bne_eq_false_iff_eq.mpr c22
                        have c22b2 : t157.toList.isEmpty = true := List.isEmpty_iff.mpr c22
                        clear c22
                        replace H := Option.bind_eq_some_iff.mp H
                        obtain ⟨t161, A230, H⟩ := H
                        replace H : (if t161 = 0 then (crossroadslaw12_NamesKnown.l1 k2 y148 (wrap64 (x4_2 + 1))) else (none)) = some r := H
                        have A23 := Aside0.mk A230
                        clear A230
                        by_cases c24 : t161 = 0
                        · rw [if_pos c24] at H
                          have c24b0 : (t161 == 0) = true := beq_iff_eq.mpr c24
                          have c24b1 : (t161 != 0) = false := bne_eq_false_iff_eq.mpr c24
                          clear c24
                          have H' := Aside0.mk H
                          clear H
                          obtain ⟨Ao25, co25, eo25⟩ := Kd.R_slice HO_2.out
                          subst eo25
                          have p155 : 0 ≤ (x4_2 : Int) := of_decide_eq_true (by first | (with_reducible assumption) | assumption)
                          have q155 : x4_2 < (y148.length : Int) := of_decide_eq_true (by first | (with_reducible assumption) | assumption)
                          (try (obtain ⟨Aoo155, coo155, eoo155⟩ := Kd.R_slice HO_2.out; subst eoo155))
                          obtain ⟨ad155, e155, hx155_0⟩ := Kd.at_string (Kd.R_reads' HO_2.out).2.2 x4_2 p155 q155
                          cases e155
                          replace p155 := eq_true p155
                          replace q155 := eq_true q155
                          go_wp2_with (first | ((with_reducible refine gate_callee (f := 8) rfl ?_); refine goesL_ (some 42) rfl rfl Try.func8 (by kernel_rfl) rfl #[.string (rdOf ByteArray.empty y148 x4_2)] rfl (by (try simp only [List.map_toArray, List.map_cons, List.map_nil]); first | done | rfl | (simp only [List.length_drop, List.length_take]; rfl)) ?_; (with_reducible refine (names_Split.calls k2 (rdOf ByteArray.empty y148 x4_2) t156 t157 _ A18.out).mono ?_); rintro e w' ⟨rfl, ⟨nd, rfl⟩⟩; refine ⟨_, rfl, ?_⟩; have p158 : 0 ≤ (x4_2 : Int) := of_decide_eq_true (by first | (with_reducible assumption) | assumption); have q158 : x4_2 < (y148.length : Int) := of_decide_eq_true (by first | (with_reducible assumption) | assumption); (try (obtain ⟨Aoo158, coo158, eoo158⟩ := Kd.R_slice HO_2.out; subst eoo158)); obtain ⟨ad158, e158, hx158_0⟩ := Kd.at_string (Kd.R_reads' HO_2.out).2.2 x4_2 p158 q158; obtain rfl : ad155 = ad158 := (by injection e158); replace p158 := eq_true p158; replace q158 := eq_true q158) | ((with_reducible refine gate_callee (f := 11) rfl ?_); refine goesL_ (some 49) rfl rfl Try.func11 (by kernel_rfl) rfl #[.string (rdOf ByteArray.empty y148 x4_2)] rfl (by (try simp only [List.map_toArray, List.map_cons, List.map_nil]); first | done | rfl | (simp only [List.length_drop, List.length_take]; rfl)) ?_; (with_reducible refine (names_May.calls k2 (rdOf ByteArray.empty y148 x4_2) false _ A19.out).mono ?_); rintro e w' ⟨rfl, ⟨nd, rfl⟩⟩; refine ⟨_, rfl, ?_⟩; have p160 : 0 ≤ (x4_2 : Int) := of_decide_eq_true (by first | (with_reducible assumption) | assumption); have q160 : x4_2 < (y148.length : Int) := of_decide_eq_true (by first | (with_reducible assumption) | assumption); (try (obtain ⟨Aoo160, coo160, eoo160⟩ := Kd.R_slice HO_2.out; subst eoo160)); obtain ⟨ad160, e160, hx160_0⟩ := Kd.at_string (Kd.R_reads' HO_2.out).2.2 x4_2 p160 q160; obtain rfl : ad155 = ad160 := (by injection e160); replace p160 := eq_true p160; replace q160 := eq_true q160) | (go_at_call 12; (with_reducible refine (names_Deep.calls k2 (rdOf ByteArray.empty y148 x4_2) t161 _ A23.out).mono ?_); rintro e w' ⟨rfl, ⟨nd, rfl⟩⟩))
                          go_roundg k2
                          case measure => have := HK1.out; have := HK2.out; omega
                          case rel => exact ⟨(wrap64 (x4_2 + 1)), (by first | rfl | (simp; done) | (simp [*]; done)), H', ⟨by have := HK1.out; have := HK2.out; omega⟩, ⟨by (with_reducible repeat (first | apply Kd.R_alloc | apply Kd.R_drewN | apply Kd.R_drew)); exact HO_2.out⟩, ⟨by repeat (first | (with_reducible first | exact HB.out | apply below_alloc | apply pw_below_drewN | apply below_drew1) | exact HB.out)⟩⟩
                        · rw [if_neg c24] at H
                          exact absurd H (by simp)
                      · rw [if_neg c22] at H
                        exact absurd H (by simp)
                    · rw [if_neg c21] at H
                      exact absurd H (by simp)
                · rw [if_neg c17] at H
                  exact absurd H (by simp)
              · rw [if_neg c16] at H
                have c16b0 : decide (x4_2 < (y148.length : Int)) = false := decide_eq_false c16
                clear c16
                replace H := Option.bind_eq_some_iff.mp H
                obtain ⟨t162, A260, H⟩ := H
                replace H : (if t162 = true then ((names_Less.f k2 (⟨#[97, 47, 97]⟩ : ByteArray) (⟨#[98]⟩ : ByteArray)).bind fun t163 => (if t163 = true then (none) else ((names_Less.f k2 (⟨#[97, 47, 97]⟩ : ByteArray) (⟨#[97, 47, 98]⟩ : ByteArray)).bind fun t164 => (if t164 = true then ((names_Less.f k2 (⟨#[97]⟩ : ByteArray) (⟨#[97]⟩ : ByteArray)).bind fun t165 => (if t165 = true then (none) else ((names_Less.f k2 (⟨#[97, 47, 122]⟩ : ByteArray) (⟨#[98, 47, 97]⟩ : ByteArray)).bind fun t166 => (some t166)))) else (none))))) else (none)) = some r := H
                have A26 := Aside0.mk A260
                clear A260
                by_cases c27 : t162 = true
                · subst c27
                  have H1 : ((names_Less.f k2 (⟨#[97, 47, 97]⟩ : ByteArray) (⟨#[98]⟩ : ByteArray)).bind fun t163 => (if t163 = true then (none) else ((names_Less.f k2 (⟨#[97, 47, 97]⟩ : ByteArray) (⟨#[97, 47, 98]⟩ : ByteArray)).bind fun t164 => (if t164 = true then ((names_Less.f k2 (⟨#[97]⟩ : ByteArray) (⟨#[97]⟩ : ByteArray)).bind fun t165 => (if t165 = true then (none) else ((names_Less.f k2 (⟨#[97, 47, 122]⟩ : ByteArray) (⟨#[98, 47, 97]⟩ : ByteArray)).bind fun t166 => (some t166)))) else (none))))) = some r := by rw [if_pos rfl] at H; exact H
                  clear H
                  have H := H1
                  clear H1
                  replace H := Option.bind_eq_some_iff.mp H
                  obtain ⟨t163, A280, H⟩ := H
                  replace H : (if t163 = true then (none) else ((names_Less.f k2 (⟨#[97, 47, 97]⟩ : ByteArray) (⟨#[97, 47, 98]⟩ : ByteArray)).bind fun t164 => (if t164 = true then ((names_Less.f k2 (⟨#[97]⟩ : ByteArray) (⟨#[97]⟩ : ByteArray)).bind fun t165 => (if t165 = true then (none) else ((names_Less.f k2 (⟨#[97, 47, 122]⟩ : ByteArray) (⟨#[98, 47, 97]⟩ : ByteArray)).bind fun t166 => (some t166)))) else (none)))) = some r := H
                  have A28 := Aside0.mk A280
                  clear A280
                  by_cases c29 : t163 = true
                  · subst c29
                    have H1 : (none) = some r := by rw [if_pos rfl] at H; exact H
                    clear H
                    have H := H1
                    clear H1
                    exact absurd H (by simp)
                  · replace c29 := Bool.eq_false_iff.mpr c29
                    subst c29
                    have H1 : ((names_Less.f k2 (⟨#[97, 47, 97]⟩ : ByteArray) (⟨#[97, 47, 98]⟩ : ByteArray)).bind fun t164 => (if t164 = true then ((names_Less.f k2 (⟨#[97]⟩ : ByteArray) (⟨#[97]⟩ : ByteArray)).bind fun t165 => (if t165 = true then (none) else ((names_Less.f k2 (⟨#[97, 47, 122]⟩ : ByteArray) (⟨#[98, 47, 97]⟩ : ByteArray)).bind fun t166 => (some t166)))) else (none))) = some r := by rw [if_neg (show ¬ (false = true) by decide)] at H; exact H
                    clear H
                    have H := H1
                    clear H1
                    replace H := Option.bind_eq_some_iff.mp H
                    obtain ⟨t164, A300, H⟩ := H
                    replace H : (if t164 = true then ((names_Less.f k2 (⟨#[97]⟩ : ByteArray) (⟨#[97]⟩ : ByteArray)).bind fun t165 => (if t165 = true then (none) else ((names_Less.f k2 (⟨#[97, 47, 122]⟩ : ByteArray) (⟨#[98, 47, 97]⟩ : ByteArray)).bind fun t166 => (some t166)))) else (none)) = some r := H
                    have A30 := Aside0.mk A300
                    clear A300
                    by_cases c31 : t164 = true
                    · subst c31
                      have H1 : ((names_Less.f k2 (⟨#[97]⟩ : ByteArray) (⟨#[97]⟩ : ByteArray)).bind fun t165 => (if t165 = true then (none) else ((names_Less.f k2 (⟨#[97, 47, 122]⟩ : ByteArray) (⟨#[98, 47, 97]⟩ : ByteArray)).bind fun t166 => (some t166)))) = some r := by rw [if_pos rfl] at H; exact H
                      clear H
                      have H := H1
                      clear H1
                      replace H := Option.bind_eq_some_iff.mp H
                      obtain ⟨t165, A320, H⟩ := H
                      replace H : (if t165 = true then (none) else ((names_Less.f k2 (⟨#[97, 47, 122]⟩ : ByteArray) (⟨#[98, 47, 97]⟩ : ByteArray)).bind fun t166 => (some t166))) = some r := H
                      have A32 := Aside0.mk A320
                      clear A320
                      by_cases c33 : t165 = true
                      · subst c33
                        have H1 : (none) = some r := by rw [if_pos rfl] at H; exact H
                        clear H
                        have H := H1
                        clear H1
                        exact absurd H (by simp)
                      · replace c33 := Bool.eq_false_iff.mpr c33
                        subst c33
                        have H1 : ((names_Less.f k2 (⟨#[97, 47, 122]⟩ : ByteArray) (⟨#[98, 47, 97]⟩ : ByteArray)).bind fun t166 => (some t166)) = some r := by rw [if_neg (show ¬ (false = true) by decide)] at H; exact H
                        clear H
                        have H := H1
                        clear H1
                        replace H := Option.bind_eq_some_iff.mp H
                        obtain ⟨t166, A340, H⟩ := H
                        replace H : (some t166) = some r := H
                        have A34 := Aside0.mk A340
                        clear A340
                        obtain rfl := Option.some.inj H
                        obtain ⟨Ao35, co35, eo35⟩ := Kd.R_slice HO_2.out
                        subst eo35
                        go_wp2_with (first | ((with_reducible refine gate_callee (f := 13) rfl ?_); refine goesL_ (some 66) rfl rfl Try.func13 (by kernel_rfl) rfl #[.string (⟨#[98]⟩ : ByteArray), .string (⟨#[97, 47, 97]⟩ : ByteArray)] rfl (by (try simp only [List.map_toArray, List.map_cons, List.map_nil]); first | done | rfl | (simp only [List.length_drop, List.length_take]; rfl)) ?_; (with_reducible refine (names_Less.calls k2 (⟨#[98]⟩ : ByteArray) (⟨#[97, 47, 97]⟩ : ByteArray) true _ A26.out).mono ?_); rintro e w36 ⟨rfl, hb⟩; refine ⟨_, rfl, ?_⟩; have n0_ := Aside0.mk (Kd.R_below (by (with_reducible repeat (first | apply Kd.R_alloc | apply Kd.R_drewN | apply Kd.R_drew)); exact HO_2.out) hb); have n1_ := Aside0.mk (below_step (by repeat (first | (with_reducible first | exact HB.out | apply below_alloc | apply pw_below_drewN | apply below_drew1) | exact HB.out)) hb); clear HO_2; clear HB; have HO_2 := n0_; have HB := n1_; clear n0_ n1_; (try clear hb); (try clear hb2); (try clear hk); (try clear hi)) | (go_at_call 13; (with_reducible refine (names_Less.calls k2 (⟨#[97, 47, 97]⟩ : ByteArray) (⟨#[98]⟩ : ByteArray) false _ A28.out).mono ?_); rintro e w37 ⟨rfl, hb⟩; have n0_ := Aside0.mk (Kd.R_below (by (with_reducible repeat (first | apply Kd.R_alloc | apply Kd.R_drewN | apply Kd.R_drew)); exact HO_2.out) hb); have n1_ := Aside0.mk (below_step (by repeat (first | (with_reducible first | exact HB.out | apply below_alloc | apply pw_below_drewN | apply below_drew1) | exact HB.out)) hb); clear HO_2; clear HB; have HO_2 := n0_; have HB := n1_; clear n0_ n1_; (try clear hb); (try clear hb2); (try clear hk); (try clear hi)) | (go_at_call 13; (with_reducible refine (names_Less.calls k2 (⟨#[97, 47, 97]⟩ : ByteArray) (⟨#[97, 47, 98]⟩ : ByteArray) true _ A30.out).mono ?_); rintro e w38 ⟨rfl, hb⟩; have n0_ := Aside0.mk (Kd.R_below (by (with_reducible repeat (first | apply Kd.R_alloc | apply Kd.R_drewN | apply Kd.R_drew)); exact HO_2.out) hb); have n1_ := Aside0.mk (below_step (by repeat (first | (with_reducible first | exact HB.out | apply below_alloc | apply pw_below_drewN | apply below_drew1) | exact HB.out)) hb); clear HO_2; clear HB; have HO_2 := n0_; have HB := n1_; clear n0_ n1_; (try clear hb); (try clear hb2); (try clear hk); (try clear hi)) | (go_at_call 13; (with_reducible refine (names_Less.calls k2 (⟨#[97]⟩ : ByteArray) (⟨#[97]⟩ : ByteArray) false _ A32.out).mono ?_); rintro e w39 ⟨rfl, hb⟩; have n0_ := Aside0.mk (Kd.R_below (by (with_reducible repeat (first | apply Kd.R_alloc | apply Kd.R_drewN | apply Kd.R_drew)); exact HO_2.out) hb); have n1_ := Aside0.mk (below_step (by repeat (first | (with_reducible first | exact HB.out | apply below_alloc | apply pw_below_drewN | apply below_drew1) | exact HB.out)) hb); clear HO_2; clear HB; have HO_2 := n0_; have HB := n1_; clear n0_ n1_; (try clear hb); (try clear hb2); (try clear hk); (try clear hi)) | (go_at_call 13; (with_reducible refine (names_Less.calls k2 (⟨#[97, 47, 122]⟩ : ByteArray) (⟨#[98, 47, 97]⟩ : ByteArray) t166 _ A34.out).mono ?_); rintro e w40 ⟨rfl, hb⟩; have n0_ := Aside0.mk (Kd.R_below (by (with_reducible repeat (first | apply Kd.R_alloc | apply Kd.R_drewN | apply Kd.R_drew)); exact HO_2.out) hb); have n1_ := Aside0.mk (below_step (by repeat (first | (with_reducible first | exact HB.out | apply below_alloc | apply pw_below_drewN | apply below_drew1) | exact HB.out)) hb); clear HO_2; clear HB; have HO_2 := n0_; have HB := n1_; clear n0_ n1_; (try clear hb); (try clear hb2); (try clear hk); (try clear hi)))
                        go_ret
                        exact ⟨by first | rfl | (simp [errW_none, errW_some] <;> rfl) | (simp [*, errW_none, errW_some] <;> rfl), by repeat (first | (with_reducible first | exact HB.out | apply below_alloc | apply pw_below_drewN | apply below_drew1) | exact HB.out)⟩
                    · replace c31 := Bool.eq_false_iff.mpr c31
                      subst c31
                      have H1 : (none) = some r := by rw [if_neg (show ¬ (false = true) by decide)] at H; exact H
                      clear H
                      have H := H1
                      clear H1
                      exact absurd H (by simp)
                · replace c27 := Bool.eq_false_iff.mpr c27
                  subst c27
                  have H1 : (none) = some r := by rw [if_neg (show ¬ (false = true) by decide)] at H; exact H
                  clear H
                  have H := H1
                  clear H1
                  exact absurd H (by simp)
  · replace c2 := Bool.eq_false_iff.mpr c2
    subst c2
    have H1 : (none) = some r := by rw [if_neg (show ¬ (false = true) by decide)] at H; exact H
    clear H
    have H := H1
    clear H1
    exact absurd H (by simp)

/-- THE ONE PURE STATEMENT of crossroadslaw12_NamesKnown. -/
def crossroadslaw12_NamesKnown.Pure : Prop := ∃ k, crossroadslaw12_NamesKnown.f k  = some true

/-! ### crossroadslaw12_NamesOrder: function 5 -/
mutual
def crossroadslaw12_NamesOrder.j0 : Nat → ByteArray → ByteArray → ByteArray → Bool → Option (Bool)
  | 0, _, _, _, _ => none
  | k + 1, x0, x1, x2, x24 => if x24 = true then (some true) else ((names_Split.f k x0).bind fun bt171 => (if bt171.1.toList = ([] : List UInt8) then (crossroadslaw12_NamesOrder.j1 k x0 x1 x2 bt171.2) else (if bt171.1.size + 1 ≤ 9223372036854775807 then (if (bt171.1 ++ (⟨#[47]⟩ : ByteArray)).size + bt171.2.size ≤ 9223372036854775807 then (crossroadslaw12_NamesOrder.j1 k x0 x1 x2 ((bt171.1 ++ (⟨#[47]⟩ : ByteArray)) ++ bt171.2)) else (none)) else (none))))
def crossroadslaw12_NamesOrder.j1 : Nat → ByteArray → ByteArray → ByteArray → ByteArray → Option (Bool)
  | 0, _, _, _, _ => none
  | k + 1, x0, x1, x2, x9 => if x9.toList = x0.toList then ((names_Less.f k x0 x1).bind fun t173 => (if t173 = true then (if ((x0.toList == x1.toList) == false) = true then ((names_Less.f k x0 x1).bind fun t174 => (if t174 = true then ((names_Less.f k x1 x0).bind fun t175 => (if t175 = true then (none) else ((names_Less.f k x0 x1).bind fun t176 => (if t176 = true then ((names_Less.f k x1 x2).bind fun t177 => (if t177 = true then ((names_Less.f k x0 x2).bind fun t178 => (some t178)) else (some true))) else (none))))) else (none))) else (none)) else ((names_Less.f k x1 x0).bind fun t182 => (if ((x0.toList == x1.toList) == (!t182)) = true then ((names_Less.f k x0 x1).bind fun t183 => (if t183 = true then (none) else ((names_Less.f k x0 x1).bind fun t188 => (if t188 = true then (none) else (some true))))) else (none))))) else (none)
end
def crossroadslaw12_NamesOrder.f (k : Nat) (a0 : ByteArray) (a1 : ByteArray) (a2 : ByteArray) : Option (Bool) := (crossroadslaw12_awake.f k).bind fun t167 => (if t167 = true then ((crossroadsref12_NameMay.f a0).bind fun t168 => (if t168 = true then ((crossroadsref12_NameMay.f a1).bind fun t169 => (if t169 = true then ((crossroadsref12_NameMay.f a2).bind fun t170 => (crossroadslaw12_NamesOrder.j0 k a0 a1 a2 (!t170))) else (crossroadslaw12_NamesOrder.j0 k a0 a1 a2 true))) else (crossroadslaw12_NamesOrder.j0 k a0 a1 a2 true))) else (none))
theorem crossroadslaw12_NamesOrder.mono_l : ∀ k, (∀ y0 y1 y2 y3, LeO (crossroadslaw12_NamesOrder.j0 k y0 y1 y2 y3) (crossroadslaw12_NamesOrder.j0 (k + 1) y0 y1 y2 y3)) ∧ (∀ y0 y1 y2 y3, LeO (crossroadslaw12_NamesOrder.j1 k y0 y1 y2 y3) (crossroadslaw12_NamesOrder.j1 (k + 1) y0 y1 y2 y3))
  | 0 => ⟨fun _ _ _ _ r h => by simp [crossroadslaw12_NamesOrder.j0] at h, fun _ _ _ _ r h => by simp [crossroadslaw12_NamesOrder.j1] at h⟩
  | k + 1 => by
    obtain ⟨ih0, ih1⟩ := crossroadslaw12_NamesOrder.mono_l k
    refine ⟨?_, ?_⟩
    · intro y0 y1 y2 y3
      unfold crossroadslaw12_NamesOrder.j0
      repeat' first
      | (with_reducible exact ih0 _ _ _ _)
      | (with_reducible exact ih1 _ _ _ _)
      | (with_reducible exact crossroadslaw12_awake.mono _)
      | (with_reducible exact names_Less.mono _ _ _)
      | (with_reducible exact names_Split.mono _ _)
      | (with_reducible exact LeO.refl _)
      | (with_reducible exact LeO.none _)
      | (with_reducible refine LeO.ite ?_ ?_)
      | (with_reducible refine LeO.bind ?_ (fun _ => ?_))
      | exact ih0 _ _ _ _
      | exact ih1 _ _ _ _
      | exact crossroadslaw12_awake.mono _
      | exact names_Less.mono _ _ _
      | exact names_Split.mono _ _
      | exact LeO.none _
      | refine LeO.ite ?_ ?_
      | refine LeO.bind ?_ (fun _ => ?_)
    · intro y0 y1 y2 y3
      unfold crossroadslaw12_NamesOrder.j1
      repeat' first
      | (with_reducible exact ih0 _ _ _ _)
      | (with_reducible exact ih1 _ _ _ _)
      | (with_reducible exact crossroadslaw12_awake.mono _)
      | (with_reducible exact names_Less.mono _ _ _)
      | (with_reducible exact names_Split.mono _ _)
      | (with_reducible exact LeO.refl _)
      | (with_reducible exact LeO.none _)
      | (with_reducible refine LeO.ite ?_ ?_)
      | (with_reducible refine LeO.bind ?_ (fun _ => ?_))
      | exact ih0 _ _ _ _
      | exact ih1 _ _ _ _
      | exact crossroadslaw12_awake.mono _
      | exact names_Less.mono _ _ _
      | exact names_Split.mono _ _
      | exact LeO.none _
      | refine LeO.ite ?_ ?_
      | refine LeO.bind ?_ (fun _ => ?_)
theorem crossroadslaw12_NamesOrder.mono : ∀ a0 a1 a2 k, LeO (crossroadslaw12_NamesOrder.f k a0 a1 a2) (crossroadslaw12_NamesOrder.f (k + 1) a0 a1 a2) := by
  intro a0 a1 a2 k
  obtain ⟨ih0, ih1⟩ := crossroadslaw12_NamesOrder.mono_l k
  unfold crossroadslaw12_NamesOrder.f
  repeat' first
      | (with_reducible exact ih0 _ _ _ _)
      | (with_reducible exact ih1 _ _ _ _)
      | (with_reducible exact crossroadslaw12_awake.mono _)
      | (with_reducible exact names_Less.mono _ _ _)
      | (with_reducible exact names_Split.mono _ _)
      | (with_reducible exact LeO.refl _)
      | (with_reducible exact LeO.none _)
      | (with_reducible refine LeO.ite ?_ ?_)
      | (with_reducible refine LeO.bind ?_ (fun _ => ?_))
      | exact ih0 _ _ _ _
      | exact ih1 _ _ _ _
      | exact crossroadslaw12_awake.mono _
      | exact names_Less.mono _ _ _
      | exact names_Split.mono _ _
      | exact LeO.none _
      | refine LeO.ite ?_ ?_
      | refine LeO.bind ?_ (fun _ => ?_)
set_option maxHeartbeats 8000000 in
set_option maxRecDepth 100000 in
theorem crossroadslaw12_NamesOrder.calls (k : Nat) (a0 : ByteArray) (a1 : ByteArray) (a2 : ByteArray) (r : Bool) (w : World) (h : crossroadslaw12_NamesOrder.f k a0 a1 a2 = some r) :
    Calls Try.prog 5 #[.string a0, .string a1, .string a2] w fun e w' => e = .returned (.bool r) ∧ Below w.heap.size w w' := by
  have HB := Aside0.mk (Below.refl w.heap.size w)
  have H : ((crossroadslaw12_awake.f k).bind fun t167 => (if t167 = true then ((crossroadsref12_NameMay.f a0).bind fun t168 => (if t168 = true then ((crossroadsref12_NameMay.f a1).bind fun t169 => (if t169 = true then ((crossroadsref12_NameMay.f a2).bind fun t170 => (crossroadslaw12_NamesOrder.j0 k a0 a1 a2 (!t170))) else (crossroadslaw12_NamesOrder.j0 k a0 a1 a2 true))) else (crossroadslaw12_NamesOrder.j0 k a0 a1 a2 true))) else (none))) = some r := h
  clear h
  replace H := Option.bind_eq_some_iff.mp H
  obtain ⟨t167, A40, H⟩ := H
  replace H : (if t167 = true then ((crossroadsref12_NameMay.f a0).bind fun t168 => (if t168 = true then ((crossroadsref12_NameMay.f a1).bind fun t169 => (if t169 = true then ((crossroadsref12_NameMay.f a2).bind fun t170 => (crossroadslaw12_NamesOrder.j0 k a0 a1 a2 (!t170))) else (crossroadslaw12_NamesOrder.j0 k a0 a1 a2 true))) else (crossroadslaw12_NamesOrder.j0 k a0 a1 a2 true))) else (none)) = some r := H
  have A4 := Aside0.mk A40
  clear A40
  by_cases c5 : t167 = true
  · subst c5
    have H1 : ((crossroadsref12_NameMay.f a0).bind fun t168 => (if t168 = true then ((crossroadsref12_NameMay.f a1).bind fun t169 => (if t169 = true then ((crossroadsref12_NameMay.f a2).bind fun t170 => (crossroadslaw12_NamesOrder.j0 k a0 a1 a2 (!t170))) else (crossroadslaw12_NamesOrder.j0 k a0 a1 a2 true))) else (crossroadslaw12_NamesOrder.j0 k a0 a1 a2 true))) = some r := by rw [if_pos rfl] at H; exact H
    clear H
    have H := H1
    clear H1
    have HC6 := Aside0.mk H
    clear H
    go_enter Try.func5, Try.ntmps5
    go_upto_region 3 with (first | ((with_reducible refine gate_callee (f := 7) rfl ?_); refine goesL_ (some 10) rfl rfl Try.func7 (by kernel_rfl) rfl #[] rfl (by (try simp only [List.map_toArray, List.map_cons, List.map_nil]); first | done | rfl | (simp only [List.length_drop, List.length_take]; rfl)) ?_; (with_reducible refine (crossroadslaw12_awake.calls k  true _ A4.out).mono ?_); rintro e w7 ⟨rfl, hb⟩; refine ⟨_, rfl, ?_⟩; have n0_ := Aside0.mk (below_step (by repeat (first | (with_reducible first | exact HB.out | apply below_alloc | apply pw_below_drewN | apply below_drew1) | exact HB.out)) hb); clear HB; have HB := n0_; clear n0_; (try clear hb); (try clear hb2); (try clear hk); (try clear hi)))
    (try simp only [Act.put, List.setIfInBounds_toArray, List.set_cons_zero, List.set_cons_succ])
    go_cut [24] (fun v24 wc => ∃ (kq : Nat) (x24_5 : Bool), v24 = .bool x24_5 ∧ Aside0 (crossroadslaw12_NamesOrder.j0 kq a0 a1 a2 x24_5 = some r) ∧ Aside0 (kq ≤ k) ∧ Aside0 (Below w.heap.size w wc))
    case first =>
      have H := HC6.out
      clear HC6
      replace H := Option.bind_eq_some_iff.mp H
      obtain ⟨t168, A80, H⟩ := H
      replace H : (if t168 = true then ((crossroadsref12_NameMay.f a1).bind fun t169 => (if t169 = true then ((crossroadsref12_NameMay.f a2).bind fun t170 => (crossroadslaw12_NamesOrder.j0 k a0 a1 a2 (!t170))) else (crossroadslaw12_NamesOrder.j0 k a0 a1 a2 true))) else (crossroadslaw12_NamesOrder.j0 k a0 a1 a2 true)) = some r := H
      have A8 := Aside0.mk A80
      clear A80
      by_cases c9 : t168 = true
      · subst c9
        have H1 : ((crossroadsref12_NameMay.f a1).bind fun t169 => (if t169 = true then ((crossroadsref12_NameMay.f a2).bind fun t170 => (crossroadslaw12_NamesOrder.j0 k a0 a1 a2 (!t170))) else (crossroadslaw12_NamesOrder.j0 k a0 a1 a2 true))) = some r := by rw [if_pos rfl] at H; exact H
        clear H
        have H := H1
        clear H1
        replace H := Option.bind_eq_some_iff.mp H
        obtain ⟨t169, A100, H⟩ := H
        replace H : (if t169 = true then ((crossroadsref12_NameMay.f a2).bind fun t170 => (crossroadslaw12_NamesOrder.j0 k a0 a1 a2 (!t170))) else (crossroadslaw12_NamesOrder.j0 k a0 a1 a2 true)) = some r := H
        have A10 := Aside0.mk A100
        clear A100
        by_cases c11 : t169 = true
        · subst c11
          have H1 : ((crossroadsref12_NameMay.f a2).bind fun t170 => (crossroadslaw12_NamesOrder.j0 k a0 a1 a2 (!t170))) = some r := by rw [if_pos rfl] at H; exact H
          clear H
          have H := H1
          clear H1
          replace H := Option.bind_eq_some_iff.mp H
          obtain ⟨t170, A120, H⟩ := H
          replace H : (crossroadslaw12_NamesOrder.j0 k a0 a1 a2 (!t170)) = some r := H
          have A12 := Aside0.mk A120
          clear A120
          have H' := Aside0.mk H
          clear H
          go_wp2_with (first | ((with_reducible refine gate_callee (f := 10) rfl ?_); refine goesL_ (some 13) rfl rfl Try.func10 (by kernel_rfl) rfl #[.string a0] rfl (by (try simp only [List.map_toArray, List.map_cons, List.map_nil]); first | done | rfl | (simp only [List.length_drop, List.length_take]; rfl)) ?_; (with_reducible refine (crossroadsref12_NameMay.calls a0 true _ A8.out).mono ?_); rintro e w13 ⟨rfl, hb⟩; refine ⟨_, rfl, ?_⟩; have n0_ := Aside0.mk (below_step (by repeat (first | (with_reducible first | exact HB.out | apply below_alloc | apply pw_below_drewN | apply below_drew1) | exact HB.out)) hb); clear HB; have HB := n0_; clear n0_; (try clear hb); (try clear hb2); (try clear hk); (try clear hi)) | (go_at_call 10; (with_reducible refine (crossroadsref12_NameMay.calls a1 true _ A10.out).mono ?_); rintro e w14 ⟨rfl, hb⟩; have n0_ := Aside0.mk (below_step (by repeat (first | (with_reducible first | exact HB.out | apply below_alloc | apply pw_below_drewN | apply below_drew1) | exact HB.out)) hb); clear HB; have HB := n0_; clear n0_; (try clear hb); (try clear hb2); (try clear hk); (try clear hi)) | (go_at_call 10; (with_reducible refine (crossroadsref12_NameMay.calls a2 t170 _ A12.out).mono ?_); rintro e w15 ⟨rfl, hb⟩; have n0_ := Aside0.mk (below_step (by repeat (first | (with_reducible first | exact HB.out | apply below_alloc | apply pw_below_drewN | apply below_drew1) | exact HB.out)) hb); clear HB; have HB := n0_; clear n0_; (try clear hb); (try clear hb2); (try clear hk); (try clear hi)))
          go_meet
          case rel => exact ⟨_, (!t170), (by first | rfl | (simp; done) | (simp [*]; done)), H', ⟨by first | omega | exact Nat.le_refl _⟩, ⟨by repeat (first | (with_reducible first | exact HB.out | apply below_alloc | apply pw_below_drewN | apply below_drew1) | exact HB.out)⟩⟩
        · replace c11 := Bool.eq_false_iff.mpr c11
          subst c11
          have H1 : (crossroadslaw12_NamesOrder.j0 k a0 a1 a2 true) = some r := by rw [if_neg (show ¬ (false = true) by decide)] at H; exact H
          clear H
          have H := H1
          clear H1
          have H' := Aside0.mk H
          clear H
          go_wp2_with (first | ((with_reducible refine gate_callee (f := 10) rfl ?_); refine goesL_ (some 13) rfl rfl Try.func10 (by kernel_rfl) rfl #[.string a0] rfl (by (try simp only [List.map_toArray, List.map_cons, List.map_nil]); first | done | rfl | (simp only [List.length_drop, List.length_take]; rfl)) ?_; (with_reducible refine (crossroadsref12_NameMay.calls a0 true _ A8.out).mono ?_); rintro e w16 ⟨rfl, hb⟩; refine ⟨_, rfl, ?_⟩; have n0_ := Aside0.mk (below_step (by repeat (first | (with_reducible first | exact HB.out | apply below_alloc | apply pw_below_drewN | apply below_drew1) | exact HB.out)) hb); clear HB; have HB := n0_; clear n0_; (try clear hb); (try clear hb2); (try clear hk); (try clear hi)) | (go_at_call 10; (with_reducible refine (crossroadsref12_NameMay.calls a1 false _ A10.out).mono ?_); rintro e w17 ⟨rfl, hb⟩; have n0_ := Aside0.mk (below_step (by repeat (first | (with_reducible first | exact HB.out | apply below_alloc | apply pw_below_drewN | apply below_drew1) | exact HB.out)) hb); clear HB; have HB := n0_; clear n0_; (try clear hb); (try clear hb2); (try clear hk); (try clear hi)))
          go_meet
          case rel => exact ⟨_, (true), (by first | rfl | (simp; done) | (simp [*]; done)), H', ⟨by first | omega | exact Nat.le_refl _⟩, ⟨by repeat (first | (with_reducible first | exact HB.out | apply below_alloc | apply pw_below_drewN | apply below_drew1) | exact HB.out)⟩⟩
      · replace c9 := Bool.eq_false_iff.mpr c9
        subst c9
        have H1 : (crossroadslaw12_NamesOrder.j0 k a0 a1 a2 true) = some r := by rw [if_neg (show ¬ (false = true) by decide)] at H; exact H
        clear H
        have H := H1
        clear H1
        have H' := Aside0.mk H
        clear H
        go_wp2_with (first | ((with_reducible refine gate_callee (f := 10) rfl ?_); refine goesL_ (some 13) rfl rfl Try.func10 (by kernel_rfl) rfl #[.string a0] rfl (by (try simp only [List.map_toArray, List.map_cons, List.map_nil]); first | done | rfl | (simp only [List.length_drop, List.length_take]; rfl)) ?_; (with_reducible refine (crossroadsref12_NameMay.calls a0 false _ A8.out).mono ?_); rintro e w18 ⟨rfl, hb⟩; refine ⟨_, rfl, ?_⟩; have n0_ := Aside0.mk (below_step (by repeat (first | (with_reducible first | exact HB.out | apply below_alloc | apply pw_below_drewN | apply below_drew1) | exact HB.out)) hb); clear HB; have HB := n0_; clear n0_; (try clear hb); (try clear hb2); (try clear hk); (try clear hi)))
        go_meet
        case rel => exact ⟨_, (true), (by first | rfl | (simp; done) | (simp [*]; done)), H', ⟨by first | omega | exact Nat.le_refl _⟩, ⟨by repeat (first | (with_reducible first | exact HB.out | apply below_alloc | apply pw_below_drewN | apply below_drew1) | exact HB.out)⟩⟩
    case rest =>
      clear HC6
      try clear c1
      try clear p2
      try clear c5
      try clear c7
      try clear c9
      try clear c10
      try clear c11
      obtain ⟨kq, x24_5, rfl, HA, HJ5, HB⟩ := hcut
      cases kq with
      | zero => exact absurd HA.out (by simp [crossroadslaw12_NamesOrder.j0])
      | succ kj5 =>
        have H := HA.out
        clear HA
        simp only [crossroadslaw12_NamesOrder.j0] at H
        by_cases c19 : x24_5 = true
        · subst c19
          have H1 : (some true) = some r := by rw [if_pos rfl] at H; exact H
          clear H
          have H := H1
          clear H1
          obtain rfl := Option.some.inj H
          go_wp2
          go_ret
          exact ⟨by first | rfl | (simp [errW_none, errW_some] <;> rfl) | (simp [*, errW_none, errW_some] <;> rfl), by repeat (first | (with_reducible first | exact HB.out | apply below_alloc | apply pw_below_drewN | apply below_drew1) | exact HB.out)⟩
        · replace c19 := Bool.eq_false_iff.mpr c19
          subst c19
          have H1 : ((names_Split.f kj5 a0).bind fun bt171 => (if bt171.1.toList = ([] : List UInt8) then (crossroadslaw12_NamesOrder.j1 kj5 a0 a1 a2 bt171.2) else (if bt171.1.size + 1 ≤ 9223372036854775807 then (if (bt171.1 ++ (⟨#[47]⟩ : ByteArray)).size + bt171.2.size ≤ 9223372036854775807 then (crossroadslaw12_NamesOrder.j1 kj5 a0 a1 a2 ((bt171.1 ++ (⟨#[47]⟩ : ByteArray)) ++ bt171.2)) else (none)) else (none)))) = some r := by rw [if_neg (show ¬ (false = true) by decide)] at H; exact H
          clear H
          have H := H1
          clear H1
          replace H := Option.bind_eq_some_iff.mp H
          obtain ⟨⟨t171, t172⟩, A200, H⟩ := H
          replace H : (if t171.toList = ([] : List UInt8) then (crossroadslaw12_NamesOrder.j1 kj5 a0 a1 a2 t172) else (if t171.size + 1 ≤ 9223372036854775807 then (if (t171 ++ (⟨#[47]⟩ : ByteArray)).size + t172.size ≤ 9223372036854775807 then (crossroadslaw12_NamesOrder.j1 kj5 a0 a1 a2 ((t171 ++ (⟨#[47]⟩ : ByteArray)) ++ t172)) else (none)) else (none))) = some r := H
          have A20 := Aside0.mk A200
          clear A200
          have HC21 := Aside0.mk H
          clear H
          go_upto_if 32 with (first | ((with_reducible refine gate_callee (f := 8) rfl ?_); refine goesL_ (some 27) rfl rfl Try.func8 (by kernel_rfl) rfl #[.string a0] rfl (by (try simp only [List.map_toArray, List.map_cons, List.map_nil]); first | done | rfl | (simp only [List.length_drop, List.length_take]; rfl)) ?_; (with_reducible refine (names_Split.calls kj5 a0 t171 t172 _ A20.out).mono ?_); rintro e w' ⟨rfl, ⟨nd, rfl⟩⟩; refine ⟨_, rfl, ?_⟩))
          (try simp only [Act.put, List.setIfInBounds_toArray, List.set_cons_zero, List.set_cons_succ])
          go_cut [9] (fun v9 wc => ∃ (kq : Nat) (x9_20 : ByteArray), v9 = .string x9_20 ∧ Aside0 (crossroadslaw12_NamesOrder.j1 kq a0 a1 a2 x9_20 = some r) ∧ Aside0 (kq ≤ kj5) ∧ Aside0 (Below w.heap.size w wc))
          case first =>
            have H := HC21.out
            clear HC21
            by_cases c22 : t171.toList = ([] : List UInt8)
            · rw [if_pos c22] at H
              have c22b0 : (t171.toList == ([] : List UInt8)) = true := beq_iff_eq.mpr c22
              have c22b1 : (t171.toList != ([] : List UInt8)) = false := bne_eq_false_iff_eq.mpr c22
              have c22b2 : t171.toList.isEmpty = true := List.isEmpty_iff.mpr c22
              clear c22
              (first | rw [c22b0] | (simp only [i64_w, i32_w]; rw [c22b0]) | (rw [c22b2]; (try simp only [Bool.not_true, Bool.not_false])) | skip)
              have H' := Aside0.mk H
              clear H
              go_wp2
              go_meet
              case rel => exact ⟨_, (t172), (by first | rfl | (simp; done) | (simp [*]; done)), H', ⟨by have := HJ5.out; first | omega | exact Nat.le_refl _⟩, ⟨by repeat (first | (with_reducible first | exact HB.out | apply below_alloc | apply pw_below_drewN | apply below_drew1) | exact HB.out)⟩⟩
            · rw [if_neg c22] at H
              have c22b0 : (t171.toList == ([] : List UInt8)) = false := beq_eq_false_iff_ne.mpr c22
              have c22b1 : (t171.toList != ([] : List UInt8)) = true := bne_iff_ne.mpr c22
              have c22b2 : t171.toList.isEmpty = false := Bool.eq_false_iff.mpr (fun h_ => c22 (List.isEmpty_iff.mp h_))
              (first | rw [c22b0] | (simp only [i64_w, i32_w]; rw [c22b0]) | (rw [c22b2]; (try simp only [Bool.not_true, Bool.not_false])) | skip)
              by_cases c23 : t171.size + 1 ≤ 9223372036854775807
              · rw [if_pos c23] at H
                have c23b0 := eq_true c23
                have c23b1 : decide (t171.size + 1 ≤ 9223372036854775807) = true := decide_eq_true c23
                try have c23b2 : (9223372036854775807 < t171.size + 1) = False := eq_false (Nat.not_lt.2 c23)
                by_cases c24 : (t171 ++ (⟨#[47]⟩ : ByteArray)).size + t172.size ≤ 9223372036854775807
                · rw [if_pos c24] at H
                  have c24b0 := eq_true c24
                  have c24b1 : decide ((t171 ++ (⟨#[47]⟩ : ByteArray)).size + t172.size ≤ 9223372036854775807) = true := decide_eq_true c24
                  try have c24b2 : (9223372036854775807 < (t171 ++ (⟨#[47]⟩ : ByteArray)).size + t172.size) = False := eq_false (Nat.not_lt.2 c24)
                  have H' := Aside0.mk H
                  clear H
                  go_wp2
                  go_meet
                  case rel => exact ⟨_, ((t171 ++ (⟨#[47]⟩ : ByteArray)) ++ t172), (by first | rfl | (simp; done) | (simp [*]; done)), H', ⟨by have := HJ5.out; first | omega | exact Nat.le_refl _⟩, ⟨by repeat (first | (with_reducible first | exact HB.out | apply below_alloc | apply pw_below_drewN | apply below_drew1) | exact HB.out)⟩⟩
                · rw [if_neg c24] at H
                  exact absurd H (by simp)
              · rw [if_neg c23] at H
                exact absurd H (by simp)
          case rest =>
            clear HC21
            try clear c1
            try clear c2
            try clear p2
            try clear c5
            try clear c7
            try clear c8
            try clear c9
            try clear c10
            try clear c11
            try clear c19
            try clear c22
            try clear c22b0
            try clear c22b1
            try clear c22b2
            try clear c23
            try clear c23b0
            try clear c23b1
            try clear c23b2
            try clear c24
            try clear c24b0
            try clear c24b1
            try clear c24b2
            try clear p2
            obtain ⟨kq, x9_20, rfl, HA, HJ20, HB⟩ := hcut
            cases kq with
            | zero => exact absurd HA.out (by simp [crossroadslaw12_NamesOrder.j1])
            | succ kj20 =>
              have H := HA.out
              clear HA
              simp only [crossroadslaw12_NamesOrder.j1] at H
              by_cases c25 : x9_20.toList = a0.toList
              · rw [if_pos c25] at H
                have c25b0 : (x9_20.toList == a0.toList) = true := beq_iff_eq.mpr c25
                have c25b1 : (x9_20.toList != a0.toList) = false := bne_eq_false_iff_eq.mpr c25
                clear c25
                replace H := Option.bind_eq_some_iff.mp H
                obtain ⟨t173, A260, H⟩ := H
                replace H : (if t173 = true then (if ((a0.toList == a1.toList) == false) = true then ((names_Less.f kj20 a0 a1).bind fun t174 => (if t174 = true then ((names_Less.f kj20 a1 a0).bind fun t175 => (if t175 = true then (none) else ((names_Less.f kj20 a0 a1).bind fun t176 => (if t176 = true then ((names_Less.f kj20 a1 a2).bind fun t177 => (if t177 = true then ((names_Less.f kj20 a0 a2).bind fun t178 => (some t178)) else (some true))) else (none))))) else (none))) else (none)) else ((names_Less.f kj20 a1 a0).bind fun t182 => (if ((a0.toList == a1.toList) == (!t182)) = true then ((names_Less.f kj20 a0 a1).bind fun t183 => (if t183 = true then (none) else ((names_Less.f kj20 a0 a1).bind fun t188 => (if t188 = true then (none) else (some true))))) else (none)))) = some r := H
                have A26 := Aside0.mk A260
                clear A260
                by_cases c27 : t173 = true
                · subst c27
                  have H1 : (if ((a0.toList == a1.toList) == false) = true then ((names_Less.f kj20 a0 a1).bind fun t174 => (if t174 = true then ((names_Less.f kj20 a1 a0).bind fun t175 => (if t175 = true then (none) else ((names_Less.f kj20 a0 a1).bind fun t176 => (if t176 = true then ((names_Less.f kj20 a1 a2).bind fun t177 => (if t177 = true then ((names_Less.f kj20 a0 a2).bind fun t178 => (some t178)) else (some true))) else (none))))) else (none))) else (none)) = some r := by rw [if_pos rfl] at H; exact H
                  clear H
                  have H := H1
                  clear H1
                  by_cases c28 : ((a0.toList == a1.toList) == false) = true
                  · rw [if_pos c28] at H
                    have c28b0 : ((a0.toList == a1.toList) == false) = true := c28
                    (try (have c28b1 : decide ((a0.toList == a1.toList) = false) = true := by simpa using c28))
                    (try (have c28b2 : ((a0.toList == a1.toList) == false) = true := by simpa using c28))
                    clear c28
                    replace H := Option.bind_eq_some_iff.mp H
                    obtain ⟨t174, A290, H⟩ := H
                    replace H : (if t174 = true then ((names_Less.f kj20 a1 a0).bind fun t175 => (if t175 = true then (none) else ((names_Less.f kj20 a0 a1).bind fun t176 => (if t176 = true then ((names_Less.f kj20 a1 a2).bind fun t177 => (if t177 = true then ((names_Less.f kj20 a0 a2).bind fun t178 => (some t178)) else (some true))) else (none))))) else (none)) = some r := H
                    have A29 := Aside0.mk A290
                    clear A290
                    by_cases c30 : t174 = true
                    · subst c30
                      have H1 : ((names_Less.f kj20 a1 a0).bind fun t175 => (if t175 = true then (none) else ((names_Less.f kj20 a0 a1).bind fun t176 => (if t176 = true then ((names_Less.f kj20 a1 a2).bind fun t177 => (if t177 = true then ((names_Less.f kj20 a0 a2).bind fun t178 => (some t178)) else (some true))) else (none))))) = some r := by rw [if_pos rfl] at H; exact H
                      clear H
                      have H := H1
                      clear H1
                      replace H := Option.bind_eq_some_iff.mp H
                      obtain ⟨t175, A310, H⟩ := H
                      replace H : (if t175 = true then (none) else ((names_Less.f kj20 a0 a1).bind fun t176 => (if t176 = true then ((names_Less.f kj20 a1 a2).bind fun t177 => (if t177 = true then ((names_Less.f kj20 a0 a2).bind fun t178 => (some t178)) else (some true))) else (none)))) = some r := H
                      have A31 := Aside0.mk A310
                      clear A310
                      by_cases c32 : t175 = true
                      · subst c32
                        have H1 : (none) = some r := by rw [if_pos rfl] at H; exact H
                        clear H
                        have H := H1
                        clear H1
                        exact absurd H (by simp)
                      · replace c32 := Bool.eq_false_iff.mpr c32
                        subst c32
                        have H1 : ((names_Less.f kj20 a0 a1).bind fun t176 => (if t176 = true then ((names_Less.f kj20 a1 a2).bind fun t177 => (if t177 = true then ((names_Less.f kj20 a0 a2).bind fun t178 => (some t178)) else (some true))) else (none))) = some r := by rw [if_neg (show ¬ (false = true) by decide)] at H; exact H
                        clear H
                        have H := H1
                        clear H1
                        replace H := Option.bind_eq_some_iff.mp H
                        obtain ⟨t176, A330, H⟩ := H
                        replace H : (if t176 = true then ((names_Less.f kj20 a1 a2).bind fun t177 => (if t177 = true then ((names_Less.f kj20 a0 a2).bind fun t178 => (some t178)) else (some true))) else (none)) = some r := H
                        have A33 := Aside0.mk A330
                        clear A330
                        by_cases c34 : t176 = true
                        · subst c34
                          have H1 : ((names_Less.f kj20 a1 a2).bind fun t177 => (if t177 = true then ((names_Less.f kj20 a0 a2).bind fun t178 => (some t178)) else (some true))) = some r := by rw [if_pos rfl] at H; exact H
                          clear H
                          have H := H1
                          clear H1
                          replace H := Option.bind_eq_some_iff.mp H
                          obtain ⟨t177, A350, H⟩ := H
                          replace H : (if t177 = true then ((names_Less.f kj20 a0 a2).bind fun t178 => (some t178)) else (some true)) = some r := H
                          have A35 := Aside0.mk A350
                          clear A350
                          by_cases c36 : t177 = true
                          · subst c36
                            have H1 : ((names_Less.f kj20 a0 a2).bind fun t178 => (some t178)) = some r := by rw [if_pos rfl] at H; exact H
                            clear H
                            have H := H1
                            clear H1
                            replace H := Option.bind_eq_some_iff.mp H
                            obtain ⟨t178, A370, H⟩ := H
                            replace H : (some t178) = some r := H
                            have A37 := Aside0.mk A370
                            clear A370
                            obtain rfl := Option.some.inj H
                            go_wp2_with (first | (go_at_call 13; (with_reducible refine (names_Less.calls kj20 a0 a1 true _ A26.out).mono ?_); rintro e w38 ⟨rfl, hb⟩; have n0_ := Aside0.mk (below_step (by repeat (first | (with_reducible first | exact HB.out | apply below_alloc | apply pw_below_drewN | apply below_drew1) | exact HB.out)) hb); clear HB; have HB := n0_; clear n0_; (try clear hb); (try clear hb2); (try clear hk); (try clear hi)) | (go_at_call 13; (with_reducible refine (names_Less.calls kj20 a0 a1 true _ A29.out).mono ?_); rintro e w39 ⟨rfl, hb⟩; have n0_ := Aside0.mk (below_step (by repeat (first | (with_reducible first | exact HB.out | apply below_alloc | apply pw_below_drewN | apply below_drew1) | exact HB.out)) hb); clear HB; have HB := n0_; clear n0_; (try clear hb); (try clear hb2); (try clear hk); (try clear hi)) | (go_at_call 13; (with_reducible refine (names_Less.calls kj20 a1 a0 false _ A31.out).mono ?_); rintro e w40 ⟨rfl, hb⟩; have n0_ := Aside0.mk (below_step (by repeat (first | (with_reducible first | exact HB.out | apply below_alloc | apply pw_below_drewN | apply below_drew1) | exact HB.out)) hb); clear HB; have HB := n0_; clear n0_; (try clear hb); (try clear hb2); (try clear hk); (try clear hi)) | (go_at_call 13; (with_reducible refine (names_Less.calls kj20 a0 a1 true _ A33.out).mono ?_); rintro e w41 ⟨rfl, hb⟩; have n0_ := Aside0.mk (below_step (by repeat (first | (with_reducible first | exact HB.out | apply below_alloc | apply pw_below_drewN | apply below_drew1) | exact HB.out)) hb); clear HB; have HB := n0_; clear n0_; (try clear hb); (try clear hb2); (try clear hk); (try clear hi)) | (go_at_call 13; (with_reducible refine (names_Less.calls kj20 a1 a2 true _ A35.out).mono ?_); rintro e w42 ⟨rfl, hb⟩; have n0_ := Aside0.mk (below_step (by repeat (first | (with_reducible first | exact HB.out | apply below_alloc | apply pw_below_drewN | apply below_drew1) | exact HB.out)) hb); clear HB; have HB := n0_; clear n0_; (try clear hb); (try clear hb2); (try clear hk); (try clear hi)) | (go_at_call 13; (with_reducible refine (names_Less.calls kj20 a0 a2 t178 _ A37.out).mono ?_); rintro e w43 ⟨rfl, hb⟩; have n0_ := Aside0.mk (below_step (by repeat (first | (with_reducible first | exact HB.out | apply below_alloc | apply pw_below_drewN | apply below_drew1) | exact HB.out)) hb); clear HB; have HB := n0_; clear n0_; (try clear hb); (try clear hb2); (try clear hk); (try clear hi)))
                            go_ret
                            exact ⟨by first | rfl | (simp [errW_none, errW_some] <;> rfl) | (simp [*, errW_none, errW_some] <;> rfl), by repeat (first | (with_reducible first | exact HB.out | apply below_alloc | apply pw_below_drewN | apply below_drew1) | exact HB.out)⟩
                          · replace c36 := Bool.eq_false_iff.mpr c36
                            subst c36
                            have H1 : (some true) = some r := by rw [if_neg (show ¬ (false = true) by decide)] at H; exact H
                            clear H
                            have H := H1
                            clear H1
                            obtain rfl := Option.some.inj H
                            go_wp2_with (first | (go_at_call 13; (with_reducible refine (names_Less.calls kj20 a0 a1 true _ A26.out).mono ?_); rintro e w44 ⟨rfl, hb⟩; have n0_ := Aside0.mk (below_step (by repeat (first | (with_reducible first | exact HB.out | apply below_alloc | apply pw_below_drewN | apply below_drew1) | exact HB.out)) hb); clear HB; have HB := n0_; clear n0_; (try clear hb); (try clear hb2); (try clear hk); (try clear hi)) | (go_at_call 13; (with_reducible refine (names_Less.calls kj20 a0 a1 true _ A29.out).mono ?_); rintro e w45 ⟨rfl, hb⟩; have n0_ := Aside0.mk (below_step (by repeat (first | (with_reducible first | exact HB.out | apply below_alloc | apply pw_below_drewN | apply below_drew1) | exact HB.out)) hb); clear HB; have HB := n0_; clear n0_; (try clear hb); (try clear hb2); (try clear hk); (try clear hi)) | (go_at_call 13; (with_reducible refine (names_Less.calls kj20 a1 a0 false _ A31.out).mono ?_); rintro e w46 ⟨rfl, hb⟩; have n0_ := Aside0.mk (below_step (by repeat (first | (with_reducible first | exact HB.out | apply below_alloc | apply pw_below_drewN | apply below_drew1) | exact HB.out)) hb); clear HB; have HB := n0_; clear n0_; (try clear hb); (try clear hb2); (try clear hk); (try clear hi)) | (go_at_call 13; (with_reducible refine (names_Less.calls kj20 a0 a1 true _ A33.out).mono ?_); rintro e w47 ⟨rfl, hb⟩; have n0_ := Aside0.mk (below_step (by repeat (first | (with_reducible first | exact HB.out | apply below_alloc | apply pw_below_drewN | apply below_drew1) | exact HB.out)) hb); clear HB; have HB := n0_; clear n0_; (try clear hb); (try clear hb2); (try clear hk); (try clear hi)) | (go_at_call 13; (with_reducible refine (names_Less.calls kj20 a1 a2 false _ A35.out).mono ?_); rintro e w48 ⟨rfl, hb⟩; have n0_ := Aside0.mk (below_step (by repeat (first | (with_reducible first | exact HB.out | apply below_alloc | apply pw_below_drewN | apply below_drew1) | exact HB.out)) hb); clear HB; have HB := n0_; clear n0_; (try clear hb); (try clear hb2); (try clear hk); (try clear hi)))
                            go_ret
                            exact ⟨by first | rfl | (simp [errW_none, errW_some] <;> rfl) | (simp [*, errW_none, errW_some] <;> rfl), by repeat (first | (with_reducible first | exact HB.out | apply below_alloc | apply pw_below_drewN | apply below_drew1) | exact HB.out)⟩
                        · replace c34 := Bool.eq_false_iff.mpr c34
                          subst c34
                          have H1 : (none) = some r := by rw [if_neg (show ¬ (false = true) by decide)] at H; exact H
                          clear H
                          have H := H1
                          clear H1
                          exact absurd H (by simp)
                    · replace c30 := Bool.eq_false_iff.mpr c30
                      subst c30
                      have H1 : (none) = some r := by rw [if_neg (show ¬ (false = true) by decide)] at H; exact H
                      clear H
                      have H := H1
                      clear H1
                      exact absurd H (by simp)
                  · rw [if_neg c28] at H
                    exact absurd H (by simp)
                · replace c27 := Bool.eq_false_iff.mpr c27
                  subst c27
                  have H1 : ((names_Less.f kj20 a1 a0).bind fun t182 => (if ((a0.toList == a1.toList) == (!t182)) = true then ((names_Less.f kj20 a0 a1).bind fun t183 => (if t183 = true then (none) else ((names_Less.f kj20 a0 a1).bind fun t188 => (if t188 = true then (none) else (some true))))) else (none))) = some r := by rw [if_neg (show ¬ (false = true) by decide)] at H; exact H
                  clear H
                  have H := H1
                  clear H1
                  replace H := Option.bind_eq_some_iff.mp H
                  obtain ⟨t182, A490, H⟩ := H
                  replace H : (if ((a0.toList == a1.toList) == (!t182)) = true then ((names_Less.f kj20 a0 a1).bind fun t183 => (if t183 = true then (none) else ((names_Less.f kj20 a0 a1).bind fun t188 => (if t188 = true then (none) else (some true))))) else (none)) = some r := H
                  have A49 := Aside0.mk A490
                  clear A490
                  by_cases c50 : ((a0.toList == a1.toList) == (!t182)) = true
                  · rw [if_pos c50] at H
                    have c50b0 : ((a0.toList == a1.toList) == (!t182)) = true := c50
                    (try (have c50b1 : decide ((a0.toList == a1.toList) = (!t182)) = true := by simpa using c50))
                    (try (have c50b2 : ((a0.toList == a1.toList) == (!t182)) = true := by simpa using c50))
                    clear c50
                    replace H := Option.bind_eq_some_iff.mp H
                    obtain ⟨t183, A510, H⟩ := H
                    replace H : (if t183 = true then (none) else ((names_Less.f kj20 a0 a1).bind fun t188 => (if t188 = true then (none) else (some true)))) = some r := H
                    have A51 := Aside0.mk A510
                    clear A510
                    by_cases c52 : t183 = true
                    · subst c52
                      have H1 : (none) = some r := by rw [if_pos rfl] at H; exact H
                      clear H
                      have H := H1
                      clear H1
                      exact absurd H (by simp)
                    · replace c52 := Bool.eq_false_iff.mpr c52
                      subst c52
                      have H1 : ((names_Less.f kj20 a0 a1).bind fun t188 => (if t188 = true then (none) else (some true))) = some r := by rw [if_neg (show ¬ (false = true) by decide)] at H; exact H
                      clear H
                      have H := H1
                      clear H1
                      replace H := Option.bind_eq_some_iff.mp H
                      obtain ⟨t188, A530, H⟩ := H
                      replace H : (if t188 = true then (none) else (some true)) = some r := H
                      have A53 := Aside0.mk A530
                      clear A530
                      by_cases c54 : t188 = true
                      · subst c54
                        have H1 : (none) = some r := by rw [if_pos rfl] at H; exact H
                        clear H
                        have H := H1
                        clear H1
                        exact absurd H (by simp)
                      · replace c54 := Bool.eq_false_iff.mpr c54
                        subst c54
                        have H1 : (some true) = some r := by rw [if_neg (show ¬ (false = true) by decide)] at H; exact H
                        clear H
                        have H := H1
                        clear H1
                        obtain rfl := Option.some.inj H
                        go_wp2_with (first | (go_at_call 13; (with_reducible refine (names_Less.calls kj20 a0 a1 false _ A26.out).mono ?_); rintro e w55 ⟨rfl, hb⟩; have n0_ := Aside0.mk (below_step (by repeat (first | (with_reducible first | exact HB.out | apply below_alloc | apply pw_below_drewN | apply below_drew1) | exact HB.out)) hb); clear HB; have HB := n0_; clear n0_; (try clear hb); (try clear hb2); (try clear hk); (try clear hi)) | (go_at_call 13; (with_reducible refine (names_Less.calls kj20 a1 a0 t182 _ A49.out).mono ?_); rintro e w56 ⟨rfl, hb⟩; have n0_ := Aside0.mk (below_step (by repeat (first | (with_reducible first | exact HB.out | apply below_alloc | apply pw_below_drewN | apply below_drew1) | exact HB.out)) hb); clear HB; have HB := n0_; clear n0_; (try clear hb); (try clear hb2); (try clear hk); (try clear hi)) | (go_at_call 13; (with_reducible refine (names_Less.calls kj20 a0 a1 false _ A51.out).mono ?_); rintro e w57 ⟨rfl, hb⟩; have n0_ := Aside0.mk (below_step (by repeat (first | (with_reducible first | exact HB.out | apply below_alloc | apply pw_below_drewN | apply below_drew1) | exact HB.out)) hb); clear HB; have HB := n0_; clear n0_; (try clear hb); (try clear hb2); (try clear hk); (try clear hi)) | (go_at_call 13; (with_reducible refine (names_Less.calls kj20 a0 a1 false _ A53.out).mono ?_); rintro e w58 ⟨rfl, hb⟩; have n0_ := Aside0.mk (below_step (by repeat (first | (with_reducible first | exact HB.out | apply below_alloc | apply pw_below_drewN | apply below_drew1) | exact HB.out)) hb); clear HB; have HB := n0_; clear n0_; (try clear hb); (try clear hb2); (try clear hk); (try clear hi)))
                        go_ret
                        exact ⟨by first | rfl | (simp [errW_none, errW_some] <;> rfl) | (simp [*, errW_none, errW_some] <;> rfl), by repeat (first | (with_reducible first | exact HB.out | apply below_alloc | apply pw_below_drewN | apply below_drew1) | exact HB.out)⟩
                  · rw [if_neg c50] at H
                    exact absurd H (by simp)
              · rw [if_neg c25] at H
                exact absurd H (by simp)
  · replace c5 := Bool.eq_false_iff.mpr c5
    subst c5
    have H1 : (none) = some r := by rw [if_neg (show ¬ (false = true) by decide)] at H; exact H
    clear H
    have H := H1
    clear H1
    exact absurd H (by simp)

/-- THE ONE PURE STATEMENT of crossroadslaw12_NamesOrder. -/
def crossroadslaw12_NamesOrder.Pure : Prop := ∀ (a0 : ByteArray) (a1 : ByteArray) (a2 : ByteArray), a0.size ≤ 140737488351232 → a1.size ≤ 140737488351232 → a2.size ≤ 140737488351232 → ∃ k, crossroadslaw12_NamesOrder.f k a0 a1 a2 = some true

end Go.Proofs.Ytpkdmnjonfophaa.P
