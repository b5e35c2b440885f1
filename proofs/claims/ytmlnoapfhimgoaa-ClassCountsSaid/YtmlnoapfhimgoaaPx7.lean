-- Laid by a program of this session (the kit's print, changed): Lean checks it.
import Derived.Test.YtmlnoapfhimgoaaPx0
import Derived.Test.YtmlnoapfhimgoaaPx1
import Derived.Test.YtmlnoapfhimgoaaPx2
import Derived.Test.YtmlnoapfhimgoaaPx3
import Derived.Test.YtmlnoapfhimgoaaPx4
import Derived.Test.YtmlnoapfhimgoaaPx6
import Derived.Test.YtmlnoapfhimgoaaGMay
import Derived.Test.YtmlnoapfhimgoaaGNth
import Derived.Test.YtmlnoapfhimgoaaGRMay
import Derived.Test.YtmlnoapfhimgoaaGRNth
namespace Go.Proofs.Ytmlnoapfhimgoaa.G
end Go.Proofs.Ytmlnoapfhimgoaa.G
namespace Go.Proofs.Ytmlnoapfhimgoaa.P
open Go.Proofs.Ytmlnoapfhimgoaa.G
open Go.RowKit Go.Proofs.YtmlnoapfhimgoaaW.PrintWords Go.Proofs.YtmlnoapfhimgoaaW.PrintLast Go.Proofs.YtmlnoapfhimgoaaW.PrintMore
attribute [local go_sem] max2_int min2_int max_two min_two max_three min_three max_four min_four   -- for this text's walks alone
set_option linter.unusedVariables false
set_option linter.unusedSimpArgs false

/-! ### crossroadslaw17_ClassCounts: function 3 -/
mutual
def crossroadslaw17_ClassCounts.j0 : Nat → Bool → Bool → List (S38) → List Int → Int → Int → Int → List (List Int) → List (List Int) → List Bool → Option (Bool)
  | 0, _, _, _, _, _, _, _, _, _, _ => none
  | k + 1, x6, x51, x272000, x272001, x272002, x272003, x272004, x285000, x285001, x285002 => if x51 = true then (none) else ((class_Files.f k x272000 x272001 x272002 x272003 x272004).bind fun t301 => (crossroadslaw17_ClassCounts.l0 k x6 0 t301 0 x272000 x272001 x272002 x272003 x272004 x285000 x285001 x285002))
def crossroadslaw17_ClassCounts.l0 : Nat → Bool → Int → List Int → Int → List (S38) → List Int → Int → Int → Int → List (List Int) → List (List Int) → List Bool → Option (Bool)
  | 0, _, _, _, _, _, _, _, _, _, _, _, _ => none
  | k + 1, x6, x9, x10, x11, x272000, x272001, x272002, x272003, x272004, x285000, x285001, x285002 => if x11 < (x272000.length : Int) then (if 0 ≤ x11 then (if (rd_T38 x272000 x11).f1 = true then (crossroadslaw17_ClassCounts.l0 k x6 x9 x10 (wrap64 (x11 + 1)) x272000 x272001 x272002 x272003 x272004 x285000 x285001 x285002) else (if x9 ≥ (x10.length : Int) then (none) else (if 0 ≤ x9 then (if x9 < (x10.length : Int) then (if (rd x10 x9) = x11 then (crossroadslaw17_ClassCounts.l0 k x6 (wrap64 (x9 + 1)) x10 (wrap64 (x11 + 1)) x272000 x272001 x272002 x272003 x272004 x285000 x285001 x285002) else (none)) else (none)) else (none)))) else (none)) else (if x9 = (x10.length : Int) then (if x6 = true then ((class_Has.f k x272000 x272001 x272002 x272003 x272004 x285000 x285001 x285002).bind fun t304 => (some t304)) else (some true)) else (none))
end
def crossroadslaw17_ClassCounts.f (k : Nat) (l0_0 : List (S38)) (l0_1 : List Int) (a0_2 : Int) (a0_3 : Int) (a0_4 : Int) (a1 : Int) : Option (Bool) := (crossroadslaw17_awake.f k).bind fun t272 => (if t272 = true then ((crossroadslaw17_Small.f k l0_0 l0_1 a0_2 a0_3 a0_4).bind fun t273 => (if t273 = true then ((class_Nth.f l0_0 l0_1 a0_2 a0_3 a0_4 a1).bind fun bt274 => ((crossroadsref17_Nth.f l0_0 l0_1 a0_2 a0_3 a0_4 a1).bind fun bt285 => ((class_May.f l0_0 l0_1 a0_2 a0_3 a0_4).bind fun t296 => ((crossroadsref17_May.f l0_0 l0_1 a0_2 a0_3 a0_4).bind fun t297 => (if (t296 != t297) = true then (crossroadslaw17_ClassCounts.j0 k bt274.2.2.2 true l0_0 l0_1 a0_2 a0_3 a0_4 bt274.1 bt274.2.1 bt274.2.2.1) else ((class_Count.f k l0_0 l0_1 a0_2 a0_3 a0_4).bind fun t298 => ((crossroadsref17_Count.f k l0_0 l0_1 a0_2 a0_3 a0_4).bind fun t299 => (if t298 = t299 then (if (bt274.2.2.2 != bt285.2.2.2) = true then (crossroadslaw17_ClassCounts.j0 k bt274.2.2.2 true l0_0 l0_1 a0_2 a0_3 a0_4 bt274.1 bt274.2.1 bt274.2.2.1) else ((crossroadsref17_Same.f k bt274.1 bt274.2.1 bt274.2.2.1 bt285.1 bt285.2.1 bt285.2.2.1).bind fun t300 => (crossroadslaw17_ClassCounts.j0 k bt274.2.2.2 (!t300) l0_0 l0_1 a0_2 a0_3 a0_4 bt274.1 bt274.2.1 bt274.2.2.1))) else (crossroadslaw17_ClassCounts.j0 k bt274.2.2.2 true l0_0 l0_1 a0_2 a0_3 a0_4 bt274.1 bt274.2.1 bt274.2.2.1))))))))) else (some true))) else (none))
theorem crossroadslaw17_ClassCounts.mono_l : ∀ k, (∀ y0 y1 y2 y3 y4 y5 y6 y7 y8 y9, LeO (crossroadslaw17_ClassCounts.j0 k y0 y1 y2 y3 y4 y5 y6 y7 y8 y9) (crossroadslaw17_ClassCounts.j0 (k + 1) y0 y1 y2 y3 y4 y5 y6 y7 y8 y9)) ∧ (∀ y0 y1 y2 y3 y4 y5 y6 y7 y8 y9 y10 y11, LeO (crossroadslaw17_ClassCounts.l0 k y0 y1 y2 y3 y4 y5 y6 y7 y8 y9 y10 y11) (crossroadslaw17_ClassCounts.l0 (k + 1) y0 y1 y2 y3 y4 y5 y6 y7 y8 y9 y10 y11))
  | 0 => ⟨fun _ _ _ _ _ _ _ _ _ _ r h => by simp [crossroadslaw17_ClassCounts.j0] at h, fun _ _ _ _ _ _ _ _ _ _ _ _ r h => by simp [crossroadslaw17_ClassCounts.l0] at h⟩
  | k + 1 => by
    obtain ⟨ih0, ih1⟩ := crossroadslaw17_ClassCounts.mono_l k
    refine ⟨?_, ?_⟩
    · intro y0 y1 y2 y3 y4 y5 y6 y7 y8 y9
      unfold crossroadslaw17_ClassCounts.j0
      repeat' first
      | (with_reducible exact ih0 _ _ _ _ _ _ _ _ _ _)
      | (with_reducible exact ih1 _ _ _ _ _ _ _ _ _ _ _ _)
      | (with_reducible exact class_Count.mono _ _ _ _ _ _)
      | (with_reducible exact class_Files.mono _ _ _ _ _ _)
      | (with_reducible exact class_Has.mono _ _ _ _ _ _ _ _ _)
      | (with_reducible exact crossroadslaw17_Small.mono _ _ _ _ _ _)
      | (with_reducible exact crossroadslaw17_awake.mono _)
      | (with_reducible exact crossroadsref17_Count.mono _ _ _ _ _ _)
      | (with_reducible exact crossroadsref17_Same.mono _ _ _ _ _ _ _)
      | (with_reducible exact LeO.refl _)
      | (with_reducible exact LeO.none _)
      | (with_reducible refine LeO.ite ?_ ?_)
      | (with_reducible refine LeO.bind ?_ (fun _ => ?_))
      | exact ih0 _ _ _ _ _ _ _ _ _ _
      | exact ih1 _ _ _ _ _ _ _ _ _ _ _ _
      | exact class_Count.mono _ _ _ _ _ _
      | exact class_Files.mono _ _ _ _ _ _
      | exact class_Has.mono _ _ _ _ _ _ _ _ _
      | exact crossroadslaw17_Small.mono _ _ _ _ _ _
      | exact crossroadslaw17_awake.mono _
      | exact crossroadsref17_Count.mono _ _ _ _ _ _
      | exact crossroadsref17_Same.mono _ _ _ _ _ _ _
      | exact LeO.none _
      | refine LeO.ite ?_ ?_
      | refine LeO.bind ?_ (fun _ => ?_)
    · intro y0 y1 y2 y3 y4 y5 y6 y7 y8 y9 y10 y11
      unfold crossroadslaw17_ClassCounts.l0
      repeat' first
      | (with_reducible exact ih0 _ _ _ _ _ _ _ _ _ _)
      | (with_reducible exact ih1 _ _ _ _ _ _ _ _ _ _ _ _)
      | (with_reducible exact class_Count.mono _ _ _ _ _ _)
      | (with_reducible exact class_Files.mono _ _ _ _ _ _)
      | (with_reducible exact class_Has.mono _ _ _ _ _ _ _ _ _)
      | (with_reducible exact crossroadslaw17_Small.mono _ _ _ _ _ _)
      | (with_reducible exact crossroadslaw17_awake.mono _)
      | (with_reducible exact crossroadsref17_Count.mono _ _ _ _ _ _)
      | (with_reducible exact crossroadsref17_Same.mono _ _ _ _ _ _ _)
      | (with_reducible exact LeO.refl _)
      | (with_reducible exact LeO.none _)
      | (with_reducible refine LeO.ite ?_ ?_)
      | (with_reducible refine LeO.bind ?_ (fun _ => ?_))
      | exact ih0 _ _ _ _ _ _ _ _ _ _
      | exact ih1 _ _ _ _ _ _ _ _ _ _ _ _
      | exact class_Count.mono _ _ _ _ _ _
      | exact class_Files.mono _ _ _ _ _ _
      | exact class_Has.mono _ _ _ _ _ _ _ _ _
      | exact crossroadslaw17_Small.mono _ _ _ _ _ _
      | exact crossroadslaw17_awake.mono _
      | exact crossroadsref17_Count.mono _ _ _ _ _ _
      | exact crossroadsref17_Same.mono _ _ _ _ _ _ _
      | exact LeO.none _
      | refine LeO.ite ?_ ?_
      | refine LeO.bind ?_ (fun _ => ?_)
theorem crossroadslaw17_ClassCounts.mono : ∀ a0 a1 a2 a3 a4 a5 k, LeO (crossroadslaw17_ClassCounts.f k a0 a1 a2 a3 a4 a5) (crossroadslaw17_ClassCounts.f (k + 1) a0 a1 a2 a3 a4 a5) := by
  intro a0 a1 a2 a3 a4 a5 k
  obtain ⟨ih0, ih1⟩ := crossroadslaw17_ClassCounts.mono_l k
  unfold crossroadslaw17_ClassCounts.f
  repeat' first
      | (with_reducible exact ih0 _ _ _ _ _ _ _ _ _ _)
      | (with_reducible exact ih1 _ _ _ _ _ _ _ _ _ _ _ _)
      | (with_reducible exact class_Count.mono _ _ _ _ _ _)
      | (with_reducible exact class_Files.mono _ _ _ _ _ _)
      | (with_reducible exact class_Has.mono _ _ _ _ _ _ _ _ _)
      | (with_reducible exact crossroadslaw17_Small.mono _ _ _ _ _ _)
      | (with_reducible exact crossroadslaw17_awake.mono _)
      | (with_reducible exact crossroadsref17_Count.mono _ _ _ _ _ _)
      | (with_reducible exact crossroadsref17_Same.mono _ _ _ _ _ _ _)
      | (with_reducible exact LeO.refl _)
      | (with_reducible exact LeO.none _)
      | (with_reducible refine LeO.ite ?_ ?_)
      | (with_reducible refine LeO.bind ?_ (fun _ => ?_))
      | exact ih0 _ _ _ _ _ _ _ _ _ _
      | exact ih1 _ _ _ _ _ _ _ _ _ _ _ _
      | exact class_Count.mono _ _ _ _ _ _
      | exact class_Files.mono _ _ _ _ _ _
      | exact class_Has.mono _ _ _ _ _ _ _ _ _
      | exact crossroadslaw17_Small.mono _ _ _ _ _ _
      | exact crossroadslaw17_awake.mono _
      | exact crossroadsref17_Count.mono _ _ _ _ _ _
      | exact crossroadsref17_Same.mono _ _ _ _ _ _ _
      | exact LeO.none _
      | refine LeO.ite ?_ ?_
      | refine LeO.bind ?_ (fun _ => ?_)
def crossroadslaw17_ClassCounts.T7 : Bool × List (List Nat × List Nat) := (true, [([], []), ([0], [0]), ([], []), ([2, 1], [2]), ([1, 3], [1, 3]), ([4, 3], [4]), ([5], [5]), ([6, 5, 5], [5, 6]), ([5], [5]), ([8, 7, 5], [5, 8]), ([7, 9, 5], [5, 7, 9]), ([5, 10], [5, 10]), ([11, 9], [11]), ([12], [12]), ([12], [12]), ([13, 14, 12], [12, 13, 14]), ([12, 15], [12, 15]), ([16, 12], [16]), ([17], [17]), ([17], [17]), ([18, 19, 17, 17], [17, 18, 19]), ([20, 17], [17, 20]), ([17, 21], [17, 21])])
def crossroadslaw17_ClassCounts.B7 : List Nat := [0, 1, 0, 7, 15, 31, 63, 127, 63, 511, 1023, 2047, 4095, 8191, 8191, 32767, 65535, 131071, 262143, 262143, 1048575, 2097151, 4194303]
theorem crossroadslaw17_ClassCounts.tab7 : rtab .any (opsOf Try.f3 7) = crossroadslaw17_ClassCounts.T7 := by kernel_rfl
theorem crossroadslaw17_ClassCounts.bits7 : waitsOk crossroadslaw17_ClassCounts.T7.2 crossroadslaw17_ClassCounts.B7 = true := by kernel_rfl
set_option maxHeartbeats 8000000 in
set_option maxRecDepth 100000 in
theorem crossroadslaw17_ClassCounts.calls (k : Nat) (A0_0 : Option Addr) (c0_0 : Nat) (l0_0 : List (S38)) (A0_1 : Option Addr) (c0_1 : Nat) (l0_1 : List Int) (a0_2 : Int) (a0_3 : Int) (a0_4 : Int) (a1 : Int) (r : Bool) (w : World) (hr0_0 : Kd.C k38 w A0_0 l0_0.length l0_0) (hc0_0 : l0_0.length ≤ c0_0) (hr0_1 : Kd.C (Kd.int .i64) w A0_1 l0_1.length l0_1) (hc0_1 : l0_1.length ≤ c0_1) (h : crossroadslaw17_ClassCounts.f k l0_0 l0_1 a0_2 a0_3 a0_4 a1 = some r) :
    Calls Try.prog 3 #[.agg #[.slice A0_0 l0_0.length c0_0, .slice A0_1 l0_1.length c0_1, .int .i64 a0_2, .int .i64 a0_3, .int .i64 a0_4], .int .i64 a1] w fun e w' => e = .returned (.bool r) ∧ Below w.heap.size w w' := by
  have hu25 := Try.underlying25
  have hu31 := Try.underlying31
  have HR0_0 := Aside0.mk hr0_0
  have HC0_0 := Aside0.mk hc0_0
  clear hr0_0 hc0_0
  have HR0_1 := Aside0.mk hr0_1
  have HC0_1 := Aside0.mk hc0_1
  clear hr0_1 hc0_1
  have HB := Aside0.mk (Below.refl w.heap.size w)
  have H : ((crossroadslaw17_awake.f k).bind fun t272 => (if t272 = true then ((crossroadslaw17_Small.f k l0_0 l0_1 a0_2 a0_3 a0_4).bind fun t273 => (if t273 = true then ((class_Nth.f l0_0 l0_1 a0_2 a0_3 a0_4 a1).bind fun bt274 => ((crossroadsref17_Nth.f l0_0 l0_1 a0_2 a0_3 a0_4 a1).bind fun bt285 => ((class_May.f l0_0 l0_1 a0_2 a0_3 a0_4).bind fun t296 => ((crossroadsref17_May.f l0_0 l0_1 a0_2 a0_3 a0_4).bind fun t297 => (if (t296 != t297) = true then (crossroadslaw17_ClassCounts.j0 k bt274.2.2.2 true l0_0 l0_1 a0_2 a0_3 a0_4 bt274.1 bt274.2.1 bt274.2.2.1) else ((class_Count.f k l0_0 l0_1 a0_2 a0_3 a0_4).bind fun t298 => ((crossroadsref17_Count.f k l0_0 l0_1 a0_2 a0_3 a0_4).bind fun t299 => (if t298 = t299 then (if (bt274.2.2.2 != bt285.2.2.2) = true then (crossroadslaw17_ClassCounts.j0 k bt274.2.2.2 true l0_0 l0_1 a0_2 a0_3 a0_4 bt274.1 bt274.2.1 bt274.2.2.1) else ((crossroadsref17_Same.f k bt274.1 bt274.2.1 bt274.2.2.1 bt285.1 bt285.2.1 bt285.2.2.1).bind fun t300 => (crossroadslaw17_ClassCounts.j0 k bt274.2.2.2 (!t300) l0_0 l0_1 a0_2 a0_3 a0_4 bt274.1 bt274.2.1 bt274.2.2.1))) else (crossroadslaw17_ClassCounts.j0 k bt274.2.2.2 true l0_0 l0_1 a0_2 a0_3 a0_4 bt274.1 bt274.2.1 bt274.2.2.1))))))))) else (some true))) else (none))) = some r := h
  clear h
  replace H := Option.bind_eq_some_iff.mp H
  obtain ⟨t272, A30, H⟩ := H
  replace H : (if t272 = true then ((crossroadslaw17_Small.f k l0_0 l0_1 a0_2 a0_3 a0_4).bind fun t273 => (if t273 = true then ((class_Nth.f l0_0 l0_1 a0_2 a0_3 a0_4 a1).bind fun bt274 => ((crossroadsref17_Nth.f l0_0 l0_1 a0_2 a0_3 a0_4 a1).bind fun bt285 => ((class_May.f l0_0 l0_1 a0_2 a0_3 a0_4).bind fun t296 => ((crossroadsref17_May.f l0_0 l0_1 a0_2 a0_3 a0_4).bind fun t297 => (if (t296 != t297) = true then (crossroadslaw17_ClassCounts.j0 k bt274.2.2.2 true l0_0 l0_1 a0_2 a0_3 a0_4 bt274.1 bt274.2.1 bt274.2.2.1) else ((class_Count.f k l0_0 l0_1 a0_2 a0_3 a0_4).bind fun t298 => ((crossroadsref17_Count.f k l0_0 l0_1 a0_2 a0_3 a0_4).bind fun t299 => (if t298 = t299 then (if (bt274.2.2.2 != bt285.2.2.2) = true then (crossroadslaw17_ClassCounts.j0 k bt274.2.2.2 true l0_0 l0_1 a0_2 a0_3 a0_4 bt274.1 bt274.2.1 bt274.2.2.1) else ((crossroadsref17_Same.f k bt274.1 bt274.2.1 bt274.2.2.1 bt285.1 bt285.2.1 bt285.2.2.1).bind fun t300 => (crossroadslaw17_ClassCounts.j0 k bt274.2.2.2 (!t300) l0_0 l0_1 a0_2 a0_3 a0_4 bt274.1 bt274.2.1 bt274.2.2.1))) else (crossroadslaw17_ClassCounts.j0 k bt274.2.2.2 true l0_0 l0_1 a0_2 a0_3 a0_4 bt274.1 bt274.2.1 bt274.2.2.1))))))))) else (some true))) else (none)) = some r := H
  have A3 := Aside0.mk A30
  clear A30
  by_cases c4 : t272 = true
  · subst c4
    have H1 : ((crossroadslaw17_Small.f k l0_0 l0_1 a0_2 a0_3 a0_4).bind fun t273 => (if t273 = true then ((class_Nth.f l0_0 l0_1 a0_2 a0_3 a0_4 a1).bind fun bt274 => ((crossroadsref17_Nth.f l0_0 l0_1 a0_2 a0_3 a0_4 a1).bind fun bt285 => ((class_May.f l0_0 l0_1 a0_2 a0_3 a0_4).bind fun t296 => ((crossroadsref17_May.f l0_0 l0_1 a0_2 a0_3 a0_4).bind fun t297 => (if (t296 != t297) = true then (crossroadslaw17_ClassCounts.j0 k bt274.2.2.2 true l0_0 l0_1 a0_2 a0_3 a0_4 bt274.1 bt274.2.1 bt274.2.2.1) else ((class_Count.f k l0_0 l0_1 a0_2 a0_3 a0_4).bind fun t298 => ((crossroadsref17_Count.f k l0_0 l0_1 a0_2 a0_3 a0_4).bind fun t299 => (if t298 = t299 then (if (bt274.2.2.2 != bt285.2.2.2) = true then (crossroadslaw17_ClassCounts.j0 k bt274.2.2.2 true l0_0 l0_1 a0_2 a0_3 a0_4 bt274.1 bt274.2.1 bt274.2.2.1) else ((crossroadsref17_Same.f k bt274.1 bt274.2.1 bt274.2.2.1 bt285.1 bt285.2.1 bt285.2.2.1).bind fun t300 => (crossroadslaw17_ClassCounts.j0 k bt274.2.2.2 (!t300) l0_0 l0_1 a0_2 a0_3 a0_4 bt274.1 bt274.2.1 bt274.2.2.1))) else (crossroadslaw17_ClassCounts.j0 k bt274.2.2.2 true l0_0 l0_1 a0_2 a0_3 a0_4 bt274.1 bt274.2.1 bt274.2.2.1))))))))) else (some true))) = some r := by rw [if_pos rfl] at H; exact H
    clear H
    have H := H1
    clear H1
    replace H := Option.bind_eq_some_iff.mp H
    obtain ⟨t273, A50, H⟩ := H
    replace H : (if t273 = true then ((class_Nth.f l0_0 l0_1 a0_2 a0_3 a0_4 a1).bind fun bt274 => ((crossroadsref17_Nth.f l0_0 l0_1 a0_2 a0_3 a0_4 a1).bind fun bt285 => ((class_May.f l0_0 l0_1 a0_2 a0_3 a0_4).bind fun t296 => ((crossroadsref17_May.f l0_0 l0_1 a0_2 a0_3 a0_4).bind fun t297 => (if (t296 != t297) = true then (crossroadslaw17_ClassCounts.j0 k bt274.2.2.2 true l0_0 l0_1 a0_2 a0_3 a0_4 bt274.1 bt274.2.1 bt274.2.2.1) else ((class_Count.f k l0_0 l0_1 a0_2 a0_3 a0_4).bind fun t298 => ((crossroadsref17_Count.f k l0_0 l0_1 a0_2 a0_3 a0_4).bind fun t299 => (if t298 = t299 then (if (bt274.2.2.2 != bt285.2.2.2) = true then (crossroadslaw17_ClassCounts.j0 k bt274.2.2.2 true l0_0 l0_1 a0_2 a0_3 a0_4 bt274.1 bt274.2.1 bt274.2.2.1) else ((crossroadsref17_Same.f k bt274.1 bt274.2.1 bt274.2.2.1 bt285.1 bt285.2.1 bt285.2.2.1).bind fun t300 => (crossroadslaw17_ClassCounts.j0 k bt274.2.2.2 (!t300) l0_0 l0_1 a0_2 a0_3 a0_4 bt274.1 bt274.2.1 bt274.2.2.1))) else (crossroadslaw17_ClassCounts.j0 k bt274.2.2.2 true l0_0 l0_1 a0_2 a0_3 a0_4 bt274.1 bt274.2.1 bt274.2.2.1))))))))) else (some true)) = some r := H
    have A5 := Aside0.mk A50
    clear A50
    by_cases c6 : t273 = true
    · subst c6
      have H1 : ((class_Nth.f l0_0 l0_1 a0_2 a0_3 a0_4 a1).bind fun bt274 => ((crossroadsref17_Nth.f l0_0 l0_1 a0_2 a0_3 a0_4 a1).bind fun bt285 => ((class_May.f l0_0 l0_1 a0_2 a0_3 a0_4).bind fun t296 => ((crossroadsref17_May.f l0_0 l0_1 a0_2 a0_3 a0_4).bind fun t297 => (if (t296 != t297) = true then (crossroadslaw17_ClassCounts.j0 k bt274.2.2.2 true l0_0 l0_1 a0_2 a0_3 a0_4 bt274.1 bt274.2.1 bt274.2.2.1) else ((class_Count.f k l0_0 l0_1 a0_2 a0_3 a0_4).bind fun t298 => ((crossroadsref17_Count.f k l0_0 l0_1 a0_2 a0_3 a0_4).bind fun t299 => (if t298 = t299 then (if (bt274.2.2.2 != bt285.2.2.2) = true then (crossroadslaw17_ClassCounts.j0 k bt274.2.2.2 true l0_0 l0_1 a0_2 a0_3 a0_4 bt274.1 bt274.2.1 bt274.2.2.1) else ((crossroadsref17_Same.f k bt274.1 bt274.2.1 bt274.2.2.1 bt285.1 bt285.2.1 bt285.2.2.1).bind fun t300 => (crossroadslaw17_ClassCounts.j0 k bt274.2.2.2 (!t300) l0_0 l0_1 a0_2 a0_3 a0_4 bt274.1 bt274.2.1 bt274.2.2.1))) else (crossroadslaw17_ClassCounts.j0 k bt274.2.2.2 true l0_0 l0_1 a0_2 a0_3 a0_4 bt274.1 bt274.2.1 bt274.2.2.1))))))))) = some r := by rw [if_pos rfl] at H; exact H
      clear H
      have H := H1
      clear H1
      replace H := Option.bind_eq_some_iff.mp H
      obtain ⟨⟨t274, t277, t280, t283⟩, A70, H⟩ := H
      replace H : ((crossroadsref17_Nth.f l0_0 l0_1 a0_2 a0_3 a0_4 a1).bind fun bt285 => ((class_May.f l0_0 l0_1 a0_2 a0_3 a0_4).bind fun t296 => ((crossroadsref17_May.f l0_0 l0_1 a0_2 a0_3 a0_4).bind fun t297 => (if (t296 != t297) = true then (crossroadslaw17_ClassCounts.j0 k t283 true l0_0 l0_1 a0_2 a0_3 a0_4 t274 t277 t280) else ((class_Count.f k l0_0 l0_1 a0_2 a0_3 a0_4).bind fun t298 => ((crossroadsref17_Count.f k l0_0 l0_1 a0_2 a0_3 a0_4).bind fun t299 => (if t298 = t299 then (if (t283 != bt285.2.2.2) = true then (crossroadslaw17_ClassCounts.j0 k t283 true l0_0 l0_1 a0_2 a0_3 a0_4 t274 t277 t280) else ((crossroadsref17_Same.f k t274 t277 t280 bt285.1 bt285.2.1 bt285.2.2.1).bind fun t300 => (crossroadslaw17_ClassCounts.j0 k t283 (!t300) l0_0 l0_1 a0_2 a0_3 a0_4 t274 t277 t280))) else (crossroadslaw17_ClassCounts.j0 k t283 true l0_0 l0_1 a0_2 a0_3 a0_4 t274 t277 t280)))))))) = some r := H
      have A7 := Aside0.mk A70
      clear A70
      replace H := Option.bind_eq_some_iff.mp H
      obtain ⟨⟨t285, t288, t291, t294⟩, A80, H⟩ := H
      replace H : ((class_May.f l0_0 l0_1 a0_2 a0_3 a0_4).bind fun t296 => ((crossroadsref17_May.f l0_0 l0_1 a0_2 a0_3 a0_4).bind fun t297 => (if (t296 != t297) = true then (crossroadslaw17_ClassCounts.j0 k t283 true l0_0 l0_1 a0_2 a0_3 a0_4 t274 t277 t280) else ((class_Count.f k l0_0 l0_1 a0_2 a0_3 a0_4).bind fun t298 => ((crossroadsref17_Count.f k l0_0 l0_1 a0_2 a0_3 a0_4).bind fun t299 => (if t298 = t299 then (if (t283 != t294) = true then (crossroadslaw17_ClassCounts.j0 k t283 true l0_0 l0_1 a0_2 a0_3 a0_4 t274 t277 t280) else ((crossroadsref17_Same.f k t274 t277 t280 t285 t288 t291).bind fun t300 => (crossroadslaw17_ClassCounts.j0 k t283 (!t300) l0_0 l0_1 a0_2 a0_3 a0_4 t274 t277 t280))) else (crossroadslaw17_ClassCounts.j0 k t283 true l0_0 l0_1 a0_2 a0_3 a0_4 t274 t277 t280))))))) = some r := H
      have A8 := Aside0.mk A80
      clear A80
      have HC9 := Aside0.mk H
      clear H
      go_enter Try.func3, Try.ntmps3
      go_upto_region 7 with (first | ((with_reducible refine gate_dst (N := 2) rfl ?_); refine box_event ?hg (N := 2) ?hd (cs := #[.slice A0_0 l0_0.length c0_0, .slice A0_1 l0_1.length c0_1, .int .i64 a0_2, .int .i64 a0_3, .int .i64 a0_4]) (t := 25) ?hr ?_; (case hd => rfl); (case hg => rfl); (case hr => first | (go_simp; done) | (go_simp; rfl)); intro gb271 hg w10 hbox hb; have n0_ := Aside0.mk (below_step (by repeat (first | (with_reducible first | exact HB.out | apply below_alloc | apply pw_below_drewN | apply below_drew1) | exact HB.out)) hb); have n1_ := Aside0.mk (hbox); have n2_ := Aside0.mk ((by rw [hg]; exact (below_size (by repeat (first | (with_reducible first | exact HB.out | apply below_alloc | apply pw_below_drewN | apply below_drew1) | exact HB.out))) : w.heap.size ≤ gb271)); have n3_ := Aside0.mk ((by rw [hg]; exact (below_size (by repeat (first | (with_reducible first | exact HB.out | apply below_alloc | apply pw_below_drewN | apply below_drew1) | exact HB.out))) : w.heap.size ≤ gb271)); clear HB; have HB := n0_; have BK271 := n1_; have GW271 := n2_; have GE271 := n3_; clear n0_ n1_ n2_ n3_; clear hb hbox hg) | ((with_reducible refine gate_callee (f := 9) rfl ?_); refine goesL_ (some 12) rfl rfl Try.func9 (by kernel_rfl) rfl #[] rfl (by (try simp only [List.map_toArray, List.map_cons, List.map_nil]); first | done | rfl | (simp only [List.length_drop, List.length_take]; rfl)) ?_; (with_reducible refine (crossroadslaw17_awake.calls k  true _ A3.out).mono ?_); rintro e w11 ⟨rfl, hb⟩; refine ⟨_, rfl, ?_⟩; have n0_ := Aside0.mk (blk_below (g := gb271) (o := .cells #[.slice A0_0 l0_0.length c0_0, .slice A0_1 l0_1.length c0_1, .int .i64 a0_2, .int .i64 a0_3, .int .i64 a0_4] 25 (0, 0)) (by (with_reducible repeat (first | refine blk_drewN ?_ _ | refine blk_drew ?_ | refine blk_alloc ?_ _)); exact BK271.out) hb); have n1_ := Aside0.mk (below_step (by repeat (first | (with_reducible first | exact HB.out | apply below_alloc | apply pw_below_drewN | apply below_drew1 | refine below_set ?_ GE271.out) | exact HB.out)) hb); clear BK271; clear HB; have BK271 := n0_; have HB := n1_; clear n0_ n1_; (try clear hb); (try clear hb2); (try clear hk); (try clear hi); have hcz12_0 : w11.cell? ⟨gb271, 0, none⟩ = some (.slice A0_0 l0_0.length c0_0) := (blk_cell BK271.out 0).trans rfl; have hcz12_1 : w11.cell? ⟨gb271, 1, none⟩ = some (.slice A0_1 l0_1.length c0_1) := (blk_cell BK271.out 1).trans rfl; have hcz12_2 : w11.cell? ⟨gb271, 2, none⟩ = some (.int .i64 a0_2) := (blk_cell BK271.out 2).trans rfl; have hcz12_3 : w11.cell? ⟨gb271, 3, none⟩ = some (.int .i64 a0_3) := (blk_cell BK271.out 3).trans rfl; have hcz12_4 : w11.cell? ⟨gb271, 4, none⟩ = some (.int .i64 a0_4) := (blk_cell BK271.out 4).trans rfl; have hfz12_0 := blk_frozen BK271.out 0; have hfz12_1 := blk_frozen BK271.out 1; have hfz12_2 := blk_frozen BK271.out 2; have hfz12_3 := blk_frozen BK271.out 3; have hfz12_4 := blk_frozen BK271.out 4) | ((with_reducible refine gate_callee (f := 10) rfl ?_); refine goesL_ (some 15) rfl rfl Try.func10 (by kernel_rfl) rfl #[.agg #[.slice A0_0 l0_0.length c0_0, .slice A0_1 l0_1.length c0_1, .int .i64 a0_2, .int .i64 a0_3, .int .i64 a0_4]] rfl (by (try simp only [List.map_toArray, List.map_cons, List.map_nil]); first | done | rfl | (simp only [List.length_drop, List.length_take]; rfl)) ?_; (with_reducible refine (crossroadslaw17_Small.calls k _ _ l0_0 _ _ l0_1 a0_2 a0_3 a0_4 true _ ?side1 ?side2 ?side3 ?side4 A5.out).mono ?_); (case side1 => repeat (first | exact (Kd.C_below HR0_0.out HB.out) | (with_reducible refine Kd.C_alloc ?_ _) | (with_reducible refine Kd.C_drewN ?_ _) | (with_reducible refine Kd.C_drew ?_))); (case side2 => exact HC0_0.out); (case side3 => repeat (first | exact (Kd.C_below HR0_1.out HB.out) | (with_reducible refine Kd.C_alloc ?_ _) | (with_reducible refine Kd.C_drewN ?_ _) | (with_reducible refine Kd.C_drew ?_))); (case side4 => exact HC0_1.out); rintro e w13 ⟨rfl, hb⟩; refine ⟨_, rfl, ?_⟩; have n0_ := Aside0.mk (blk_below (g := gb271) (o := .cells #[.slice A0_0 l0_0.length c0_0, .slice A0_1 l0_1.length c0_1, .int .i64 a0_2, .int .i64 a0_3, .int .i64 a0_4] 25 (0, 0)) (by (with_reducible repeat (first | refine blk_drewN ?_ _ | refine blk_drew ?_ | refine blk_alloc ?_ _)); exact BK271.out) hb); have n1_ := Aside0.mk (below_step (by repeat (first | (with_reducible first | exact HB.out | apply below_alloc | apply pw_below_drewN | apply below_drew1 | refine below_set ?_ GE271.out) | exact HB.out)) hb); clear BK271; clear HB; have BK271 := n0_; have HB := n1_; clear n0_ n1_; (try clear hb); (try clear hb2); (try clear hk); (try clear hi); have hcz14_0 : w13.cell? ⟨gb271, 0, none⟩ = some (.slice A0_0 l0_0.length c0_0) := (blk_cell BK271.out 0).trans rfl; have hcz14_1 : w13.cell? ⟨gb271, 1, none⟩ = some (.slice A0_1 l0_1.length c0_1) := (blk_cell BK271.out 1).trans rfl; have hcz14_2 : w13.cell? ⟨gb271, 2, none⟩ = some (.int .i64 a0_2) := (blk_cell BK271.out 2).trans rfl; have hcz14_3 : w13.cell? ⟨gb271, 3, none⟩ = some (.int .i64 a0_3) := (blk_cell BK271.out 3).trans rfl; have hcz14_4 : w13.cell? ⟨gb271, 4, none⟩ = some (.int .i64 a0_4) := (blk_cell BK271.out 4).trans rfl; have hfz14_0 := blk_frozen BK271.out 0; have hfz14_1 := blk_frozen BK271.out 1; have hfz14_2 := blk_frozen BK271.out 2; have hfz14_3 := blk_frozen BK271.out 3; have hfz14_4 := blk_frozen BK271.out 4) | ((with_reducible refine gate_callee (f := 11) rfl ?_); refine goesL_ (some 20) rfl rfl Try.func11 (by kernel_rfl) rfl #[.agg #[.slice A0_0 l0_0.length c0_0, .slice A0_1 l0_1.length c0_1, .int .i64 a0_2, .int .i64 a0_3, .int .i64 a0_4], .int .i64 a1] rfl (by (try simp only [List.map_toArray, List.map_cons, List.map_nil]); first | done | rfl | (simp only [List.length_drop, List.length_take]; rfl)) ?_; (with_reducible refine (class_Nth.calls _ _ l0_0 _ _ l0_1 a0_2 a0_3 a0_4 a1 t274 t277 t280 t283 _ ?side1 ?side2 ?side3 ?side4 A7.out).mono ?_); (case side1 => repeat (first | exact (Kd.C_below HR0_0.out HB.out) | (with_reducible refine Kd.C_alloc ?_ _) | (with_reducible refine Kd.C_drewN ?_ _) | (with_reducible refine Kd.C_drew ?_))); (case side2 => exact HC0_0.out); (case side3 => repeat (first | exact (Kd.C_below HR0_1.out HB.out) | (with_reducible refine Kd.C_alloc ?_ _) | (with_reducible refine Kd.C_drewN ?_ _) | (with_reducible refine Kd.C_drew ?_))); (case side4 => exact HC0_1.out); rintro e w15 ⟨v275, v278, v281, rfl, ho0, ho1, ho2, hb⟩; refine ⟨_, rfl, ?_⟩; have n0_ := Aside0.mk (Kd.V_lower (Kd.V_mono (ok' := fun k_ => k_ ≠ gb271) ho0 (fun k_ hk_ => (Kd.freshB (g := gb271) (o := .cells #[.slice A0_0 l0_0.length c0_0, .slice A0_1 l0_1.length c0_1, .int .i64 a0_2, .int .i64 a0_3, .int .i64 a0_4] 25 (0, 0)) (by (with_reducible repeat (first | refine blk_drewN ?_ _ | refine blk_drew ?_ | refine blk_alloc ?_ _)); exact BK271.out) k_ hk_))) (below_size (by repeat (first | (with_reducible first | exact HB.out | apply below_alloc | apply pw_below_drewN | apply below_drew1 | refine below_set ?_ GE271.out) | exact HB.out)))); have n1_ := Aside0.mk (Kd.V_lower (Kd.V_mono (ok' := fun k_ => k_ ≠ gb271) ho1 (fun k_ hk_ => (Kd.freshB (g := gb271) (o := .cells #[.slice A0_0 l0_0.length c0_0, .slice A0_1 l0_1.length c0_1, .int .i64 a0_2, .int .i64 a0_3, .int .i64 a0_4] 25 (0, 0)) (by (with_reducible repeat (first | refine blk_drewN ?_ _ | refine blk_drew ?_ | refine blk_alloc ?_ _)); exact BK271.out) k_ hk_))) (below_size (by repeat (first | (with_reducible first | exact HB.out | apply below_alloc | apply pw_below_drewN | apply below_drew1 | refine below_set ?_ GE271.out) | exact HB.out)))); have n2_ := Aside0.mk (Kd.V_lower (Kd.V_mono (ok' := fun k_ => k_ ≠ gb271) ho2 (fun k_ hk_ => (Kd.freshB (g := gb271) (o := .cells #[.slice A0_0 l0_0.length c0_0, .slice A0_1 l0_1.length c0_1, .int .i64 a0_2, .int .i64 a0_3, .int .i64 a0_4] 25 (0, 0)) (by (with_reducible repeat (first | refine blk_drewN ?_ _ | refine blk_drew ?_ | refine blk_alloc ?_ _)); exact BK271.out) k_ hk_))) (below_size (by repeat (first | (with_reducible first | exact HB.out | apply below_alloc | apply pw_below_drewN | apply below_drew1 | refine below_set ?_ GE271.out) | exact HB.out)))); have n3_ := Aside0.mk (blk_below (g := gb271) (o := .cells #[.slice A0_0 l0_0.length c0_0, .slice A0_1 l0_1.length c0_1, .int .i64 a0_2, .int .i64 a0_3, .int .i64 a0_4] 25 (0, 0)) (by (with_reducible repeat (first | refine blk_drewN ?_ _ | refine blk_drew ?_ | refine blk_alloc ?_ _)); exact BK271.out) hb); have n4_ := Aside0.mk (below_step (by repeat (first | (with_reducible first | exact HB.out | apply below_alloc | apply pw_below_drewN | apply below_drew1 | refine below_set ?_ GE271.out) | exact HB.out)) hb); clear BK271; clear HB; have HO276 := n0_; have HO279 := n1_; have HO282 := n2_; have BK271 := n3_; have HB := n4_; clear n0_ n1_ n2_ n3_ n4_; (try clear hb); (try clear hb2); (try clear hk); (try clear hi); (try clear ho0); (try clear ho1); (try clear ho2)) | ((with_reducible refine gate_dst (N := 5) rfl ?_); refine box_event ?hg (N := 5) ?hd (cs := #[.slice none 0 0, .slice none 0 0, .slice none 0 0]) (t := 31) ?hr ?_; (case hd => rfl); (case hg => rfl); (case hr => first | (go_simp; done) | (go_simp; rfl)); intro gb284 hg w16 hbox hb; have n0_ := Aside0.mk (Kd.V_below (Kd.V_elderB (by (with_reducible repeat (first | apply Kd.V_alloc | apply Kd.V_drewN | apply Kd.V_drew)); exact HO276.out) gb284 (Nat.le_of_eq hg.symm)) hb); have n1_ := Aside0.mk (Kd.V_below (Kd.V_elderB (by (with_reducible repeat (first | apply Kd.V_alloc | apply Kd.V_drewN | apply Kd.V_drew)); exact HO279.out) gb284 (Nat.le_of_eq hg.symm)) hb); have n2_ := Aside0.mk (Kd.V_below (Kd.V_elderB (by (with_reducible repeat (first | apply Kd.V_alloc | apply Kd.V_drewN | apply Kd.V_drew)); exact HO282.out) gb284 (Nat.le_of_eq hg.symm)) hb); have n3_ := Aside0.mk (blk_below (g := gb271) (o := .cells #[.slice A0_0 l0_0.length c0_0, .slice A0_1 l0_1.length c0_1, .int .i64 a0_2, .int .i64 a0_3, .int .i64 a0_4] 25 (0, 0)) (by (with_reducible repeat (first | refine blk_drewN ?_ _ | refine blk_drew ?_ | refine blk_alloc ?_ _)); exact BK271.out) hb); have n4_ := Aside0.mk (below_step (by repeat (first | (with_reducible first | exact HB.out | apply below_alloc | apply pw_below_drewN | apply below_drew1 | refine below_set ?_ GE271.out) | exact HB.out)) hb); have n5_ := Aside0.mk (hbox); have n6_ := Aside0.mk ((by rw [hg]; exact (below_size (by repeat (first | (with_reducible first | exact HB.out | apply below_alloc | apply pw_below_drewN | apply below_drew1 | refine below_set ?_ GE271.out) | exact HB.out))) : w.heap.size ≤ gb284)); have n7_ := Aside0.mk ((by rw [hg]; exact (below_size (by repeat (first | (with_reducible first | exact HB.out | apply below_alloc | apply pw_below_drewN | apply below_drew1 | refine below_set ?_ GE271.out) | exact HB.out))) : w.heap.size ≤ gb284)); have n8_ := Aside0.mk ((by rw [hg]; exact Nat.ne_of_lt (blk_lt (g := gb271) (o := .cells #[.slice A0_0 l0_0.length c0_0, .slice A0_1 l0_1.length c0_1, .int .i64 a0_2, .int .i64 a0_3, .int .i64 a0_4] 25 (0, 0)) (by (with_reducible repeat (first | refine blk_drewN ?_ _ | refine blk_drew ?_ | refine blk_alloc ?_ _)); exact BK271.out)) : gb271 ≠ gb284)); have n9_ := Aside0.mk ((by rw [hg]; exact Nat.ne_of_gt (blk_lt (g := gb271) (o := .cells #[.slice A0_0 l0_0.length c0_0, .slice A0_1 l0_1.length c0_1, .int .i64 a0_2, .int .i64 a0_3, .int .i64 a0_4] 25 (0, 0)) (by (with_reducible repeat (first | refine blk_drewN ?_ _ | refine blk_drew ?_ | refine blk_alloc ?_ _)); exact BK271.out)) : gb284 ≠ gb271)); clear HO276; clear HO279; clear HO282; clear BK271; clear HB; have HO276 := n0_; have HO279 := n1_; have HO282 := n2_; have BK271 := n3_; have HB := n4_; have BK284 := n5_; have GW284 := n6_; have GE284 := n7_; have NB271_284 := n8_; have NB284_271 := n9_; clear n0_ n1_ n2_ n3_ n4_ n5_ n6_ n7_ n8_ n9_; clear hb hbox hg; obtain ⟨Ao17, co17, eo17⟩ := Kd.V_slice HO276.out; subst eo17; have hnb18 := NB284_271.out; have hnc18 := NB271_284.out; have hcz19_0 : w16.cell? ⟨gb284, 0, none⟩ = some (.slice none 0 0) := (blk_cell BK284.out 0).trans rfl; have hcz19_1 : w16.cell? ⟨gb284, 1, none⟩ = some (.slice none 0 0) := (blk_cell BK284.out 1).trans rfl; have hcz19_2 : w16.cell? ⟨gb284, 2, none⟩ = some (.slice none 0 0) := (blk_cell BK284.out 2).trans rfl; have hfz19_0 := blk_frozen BK284.out 0; have hfz19_1 := blk_frozen BK284.out 1; have hfz19_2 := blk_frozen BK284.out 2; obtain ⟨Ao20, co20, eo20⟩ := Kd.V_slice HO279.out; subst eo20; obtain ⟨Ao21, co21, eo21⟩ := Kd.V_slice HO282.out; subst eo21; have hcz22_0 : w16.cell? ⟨gb271, 0, none⟩ = some (.slice A0_0 l0_0.length c0_0) := (blk_cell BK271.out 0).trans rfl; have hcz22_1 : w16.cell? ⟨gb271, 1, none⟩ = some (.slice A0_1 l0_1.length c0_1) := (blk_cell BK271.out 1).trans rfl; have hcz22_2 : w16.cell? ⟨gb271, 2, none⟩ = some (.int .i64 a0_2) := (blk_cell BK271.out 2).trans rfl; have hcz22_3 : w16.cell? ⟨gb271, 3, none⟩ = some (.int .i64 a0_3) := (blk_cell BK271.out 3).trans rfl; have hcz22_4 : w16.cell? ⟨gb271, 4, none⟩ = some (.int .i64 a0_4) := (blk_cell BK271.out 4).trans rfl; have hfz22_0 := blk_frozen BK271.out 0; have hfz22_1 := blk_frozen BK271.out 1; have hfz22_2 := blk_frozen BK271.out 2; have hfz22_3 := blk_frozen BK271.out 3; have hfz22_4 := blk_frozen BK271.out 4) | ((with_reducible refine gate_callee (f := 12) rfl ?_); refine goesL_ (some 26) rfl rfl Try.func12 (by kernel_rfl) rfl #[.agg #[.slice A0_0 l0_0.length c0_0, .slice A0_1 l0_1.length c0_1, .int .i64 a0_2, .int .i64 a0_3, .int .i64 a0_4], .int .i64 a1] rfl (by (try simp only [List.map_toArray, List.map_cons, List.map_nil]); first | done | rfl | (simp only [List.length_drop, List.length_take]; rfl)) ?_; (with_reducible refine (crossroadsref17_Nth.calls _ _ l0_0 _ _ l0_1 a0_2 a0_3 a0_4 a1 t285 t288 t291 t294 _ ?side1 ?side2 ?side3 ?side4 A8.out).mono ?_); (case side1 => exact Kd.C_below HR0_0.out (by repeat (first | (with_reducible first | exact HB.out | apply below_alloc | apply pw_below_drewN | apply below_drew1 | refine below_set ?_ GE271.out | refine below_set ?_ GE284.out) | exact HB.out))); (case side2 => exact HC0_0.out); (case side3 => exact Kd.C_below HR0_1.out (by repeat (first | (with_reducible first | exact HB.out | apply below_alloc | apply pw_below_drewN | apply below_drew1 | refine below_set ?_ GE271.out | refine below_set ?_ GE284.out) | exact HB.out))); (case side4 => exact HC0_1.out); rintro e w23 ⟨v286, v289, v292, rfl, ho0, ho1, ho2, hb⟩; refine ⟨_, rfl, ?_⟩; have n0_ := Aside0.mk (Kd.V_below (by (with_reducible repeat (first | apply Kd.V_alloc | apply Kd.V_drewN | apply Kd.V_drew)); exact (Kd.V_mono (Kd.V_far (p := ⟨gb284, 2, none⟩) (Kd.V_far (p := ⟨gb284, 1, none⟩) (Kd.V_far (p := ⟨gb284, 0, none⟩) (Kd.V_mono HO276.out (fun k_ hk => (⟨hk, hk.2⟩ : _ ∧ k_ ≠ gb284))) (fun _ hk => hk.2) (.slice Ao17 t274.length co17)) (fun _ hk => hk.2) (.slice Ao20 t277.length co20)) (fun _ hk => hk.2) (.slice Ao21 t280.length co21)) (fun _ h_ => h_.1))) hb); have n1_ := Aside0.mk (Kd.V_below (by (with_reducible repeat (first | apply Kd.V_alloc | apply Kd.V_drewN | apply Kd.V_drew)); exact (Kd.V_mono (Kd.V_far (p := ⟨gb284, 2, none⟩) (Kd.V_far (p := ⟨gb284, 1, none⟩) (Kd.V_far (p := ⟨gb284, 0, none⟩) (Kd.V_mono HO279.out (fun k_ hk => (⟨hk, hk.2⟩ : _ ∧ k_ ≠ gb284))) (fun _ hk => hk.2) (.slice Ao17 t274.length co17)) (fun _ hk => hk.2) (.slice Ao20 t277.length co20)) (fun _ hk => hk.2) (.slice Ao21 t280.length co21)) (fun _ h_ => h_.1))) hb); have n2_ := Aside0.mk (Kd.V_below (by (with_reducible repeat (first | apply Kd.V_alloc | apply Kd.V_drewN | apply Kd.V_drew)); exact (Kd.V_mono (Kd.V_far (p := ⟨gb284, 2, none⟩) (Kd.V_far (p := ⟨gb284, 1, none⟩) (Kd.V_far (p := ⟨gb284, 0, none⟩) (Kd.V_mono HO282.out (fun k_ hk => (⟨hk, hk.2⟩ : _ ∧ k_ ≠ gb284))) (fun _ hk => hk.2) (.slice Ao17 t274.length co17)) (fun _ hk => hk.2) (.slice Ao20 t277.length co20)) (fun _ hk => hk.2) (.slice Ao21 t280.length co21)) (fun _ h_ => h_.1))) hb); have n3_ := Aside0.mk (Kd.V_lower (Kd.V_mono (ok' := fun k_ => k_ ≠ gb271 ∧ k_ ≠ gb284) ho0 (fun k_ hk_ => ⟨(Kd.freshB (g := gb271) (o := .cells #[.slice A0_0 l0_0.length c0_0, .slice A0_1 l0_1.length c0_1, .int .i64 a0_2, .int .i64 a0_3, .int .i64 a0_4] 25 (0, 0)) (by (with_reducible repeat (first | refine blk_drewN ?_ _ | refine blk_drew ?_ | refine blk_alloc ?_ _)); refine blk_far ?_ NB271_284.out _; (with_reducible repeat (first | refine blk_drewN ?_ _ | refine blk_drew ?_ | refine blk_alloc ?_ _)); refine blk_far ?_ NB271_284.out _; (with_reducible repeat (first | refine blk_drewN ?_ _ | refine blk_drew ?_ | refine blk_alloc ?_ _)); refine blk_far ?_ NB271_284.out _; (with_reducible repeat (first | refine blk_drewN ?_ _ | refine blk_drew ?_ | refine blk_alloc ?_ _)); exact BK271.out) k_ hk_), (Kd.freshB (g := gb284) (o := .cells #[.slice Ao17 t274.length co17, .slice Ao20 t277.length co20, .slice Ao21 t280.length co21] 31 (0, 0)) (by (with_reducible repeat (first | refine blk_drewN ?_ _ | refine blk_drew ?_ | refine blk_alloc ?_ _)); refine blk_put (cs := #[.slice Ao17 t274.length co17, .slice Ao20 t277.length co20, .slice none 0 0]) ?_ 2 _ rfl; (with_reducible repeat (first | refine blk_drewN ?_ _ | refine blk_drew ?_ | refine blk_alloc ?_ _)); refine blk_put (cs := #[.slice Ao17 t274.length co17, .slice none 0 0, .slice none 0 0]) ?_ 1 _ rfl; (with_reducible repeat (first | refine blk_drewN ?_ _ | refine blk_drew ?_ | refine blk_alloc ?_ _)); refine blk_put (cs := #[.slice none 0 0, .slice none 0 0, .slice none 0 0]) ?_ 0 _ rfl; (with_reducible repeat (first | refine blk_drewN ?_ _ | refine blk_drew ?_ | refine blk_alloc ?_ _)); exact BK284.out) k_ hk_)⟩)) (below_size (by repeat (first | (with_reducible first | exact HB.out | apply below_alloc | apply pw_below_drewN | apply below_drew1 | refine below_set ?_ GE271.out | refine below_set ?_ GE284.out) | exact HB.out)))); have n4_ := Aside0.mk (Kd.V_lower (Kd.V_mono (ok' := fun k_ => k_ ≠ gb271 ∧ k_ ≠ gb284) ho1 (fun k_ hk_ => ⟨(Kd.freshB (g := gb271) (o := .cells #[.slice A0_0 l0_0.length c0_0, .slice A0_1 l0_1.length c0_1, .int .i64 a0_2, .int .i64 a0_3, .int .i64 a0_4] 25 (0, 0)) (by (with_reducible repeat (first | refine blk_drewN ?_ _ | refine blk_drew ?_ | refine blk_alloc ?_ _)); refine blk_far ?_ NB271_284.out _; (with_reducible repeat (first | refine blk_drewN ?_ _ | refine blk_drew ?_ | refine blk_alloc ?_ _)); refine blk_far ?_ NB271_284.out _; (with_reducible repeat (first | refine blk_drewN ?_ _ | refine blk_drew ?_ | refine blk_alloc ?_ _)); refine blk_far ?_ NB271_284.out _; (with_reducible repeat (first | refine blk_drewN ?_ _ | refine blk_drew ?_ | refine blk_alloc ?_ _)); exact BK271.out) k_ hk_), (Kd.freshB (g := gb284) (o := .cells #[.slice Ao17 t274.length co17, .slice Ao20 t277.length co20, .slice Ao21 t280.length co21] 31 (0, 0)) (by (with_reducible repeat (first | refine blk_drewN ?_ _ | refine blk_drew ?_ | refine blk_alloc ?_ _)); refine blk_put (cs := #[.slice Ao17 t274.length co17, .slice Ao20 t277.length co20, .slice none 0 0]) ?_ 2 _ rfl; (with_reducible repeat (first | refine blk_drewN ?_ _ | refine blk_drew ?_ | refine blk_alloc ?_ _)); refine blk_put (cs := #[.slice Ao17 t274.length co17, .slice none 0 0, .slice none 0 0]) ?_ 1 _ rfl; (with_reducible repeat (first | refine blk_drewN ?_ _ | refine blk_drew ?_ | refine blk_alloc ?_ _)); refine blk_put (cs := #[.slice none 0 0, .slice none 0 0, .slice none 0 0]) ?_ 0 _ rfl; (with_reducible repeat (first | refine blk_drewN ?_ _ | refine blk_drew ?_ | refine blk_alloc ?_ _)); exact BK284.out) k_ hk_)⟩)) (below_size (by repeat (first | (with_reducible first | exact HB.out | apply below_alloc | apply pw_below_drewN | apply below_drew1 | refine below_set ?_ GE271.out | refine below_set ?_ GE284.out) | exact HB.out)))); have n5_ := Aside0.mk (Kd.V_lower (Kd.V_mono (ok' := fun k_ => k_ ≠ gb271 ∧ k_ ≠ gb284) ho2 (fun k_ hk_ => ⟨(Kd.freshB (g := gb271) (o := .cells #[.slice A0_0 l0_0.length c0_0, .slice A0_1 l0_1.length c0_1, .int .i64 a0_2, .int .i64 a0_3, .int .i64 a0_4] 25 (0, 0)) (by (with_reducible repeat (first | refine blk_drewN ?_ _ | refine blk_drew ?_ | refine blk_alloc ?_ _)); refine blk_far ?_ NB271_284.out _; (with_reducible repeat (first | refine blk_drewN ?_ _ | refine blk_drew ?_ | refine blk_alloc ?_ _)); refine blk_far ?_ NB271_284.out _; (with_reducible repeat (first | refine blk_drewN ?_ _ | refine blk_drew ?_ | refine blk_alloc ?_ _)); refine blk_far ?_ NB271_284.out _; (with_reducible repeat (first | refine blk_drewN ?_ _ | refine blk_drew ?_ | refine blk_alloc ?_ _)); exact BK271.out) k_ hk_), (Kd.freshB (g := gb284) (o := .cells #[.slice Ao17 t274.length co17, .slice Ao20 t277.length co20, .slice Ao21 t280.length co21] 31 (0, 0)) (by (with_reducible repeat (first | refine blk_drewN ?_ _ | refine blk_drew ?_ | refine blk_alloc ?_ _)); refine blk_put (cs := #[.slice Ao17 t274.length co17, .slice Ao20 t277.length co20, .slice none 0 0]) ?_ 2 _ rfl; (with_reducible repeat (first | refine blk_drewN ?_ _ | refine blk_drew ?_ | refine blk_alloc ?_ _)); refine blk_put (cs := #[.slice Ao17 t274.length co17, .slice none 0 0, .slice none 0 0]) ?_ 1 _ rfl; (with_reducible repeat (first | refine blk_drewN ?_ _ | refine blk_drew ?_ | refine blk_alloc ?_ _)); refine blk_put (cs := #[.slice none 0 0, .slice none 0 0, .slice none 0 0]) ?_ 0 _ rfl; (with_reducible repeat (first | refine blk_drewN ?_ _ | refine blk_drew ?_ | refine blk_alloc ?_ _)); exact BK284.out) k_ hk_)⟩)) (below_size (by repeat (first | (with_reducible first | exact HB.out | apply below_alloc | apply pw_below_drewN | apply below_drew1 | refine below_set ?_ GE271.out | refine below_set ?_ GE284.out) | exact HB.out)))); have n6_ := Aside0.mk (blk_below (g := gb271) (o := .cells #[.slice A0_0 l0_0.length c0_0, .slice A0_1 l0_1.length c0_1, .int .i64 a0_2, .int .i64 a0_3, .int .i64 a0_4] 25 (0, 0)) (by (with_reducible repeat (first | refine blk_drewN ?_ _ | refine blk_drew ?_ | refine blk_alloc ?_ _)); refine blk_far ?_ NB271_284.out _; (with_reducible repeat (first | refine blk_drewN ?_ _ | refine blk_drew ?_ | refine blk_alloc ?_ _)); refine blk_far ?_ NB271_284.out _; (with_reducible repeat (first | refine blk_drewN ?_ _ | refine blk_drew ?_ | refine blk_alloc ?_ _)); refine blk_far ?_ NB271_284.out _; (with_reducible repeat (first | refine blk_drewN ?_ _ | refine blk_drew ?_ | refine blk_alloc ?_ _)); exact BK271.out) hb); have n7_ := Aside0.mk (blk_below (g := gb284) (o := .cells #[.slice Ao17 t274.length co17, .slice Ao20 t277.length co20, .slice Ao21 t280.length co21] 31 (0, 0)) (by (with_reducible repeat (first | refine blk_drewN ?_ _ | refine blk_drew ?_ | refine blk_alloc ?_ _)); refine blk_put (cs := #[.slice Ao17 t274.length co17, .slice Ao20 t277.length co20, .slice none 0 0]) ?_ 2 _ rfl; (with_reducible repeat (first | refine blk_drewN ?_ _ | refine blk_drew ?_ | refine blk_alloc ?_ _)); refine blk_put (cs := #[.slice Ao17 t274.length co17, .slice none 0 0, .slice none 0 0]) ?_ 1 _ rfl; (with_reducible repeat (first | refine blk_drewN ?_ _ | refine blk_drew ?_ | refine blk_alloc ?_ _)); refine blk_put (cs := #[.slice none 0 0, .slice none 0 0, .slice none 0 0]) ?_ 0 _ rfl; (with_reducible repeat (first | refine blk_drewN ?_ _ | refine blk_drew ?_ | refine blk_alloc ?_ _)); exact BK284.out) hb); have n8_ := Aside0.mk (below_step (by repeat (first | (with_reducible first | exact HB.out | apply below_alloc | apply pw_below_drewN | apply below_drew1 | refine below_set ?_ GE271.out | refine below_set ?_ GE284.out) | exact HB.out)) hb); clear HO276; clear HO279; clear HO282; clear BK271; clear BK284; clear HB; have HO276 := n0_; have HO279 := n1_; have HO282 := n2_; have HO287 := n3_; have HO290 := n4_; have HO293 := n5_; have BK271 := n6_; have BK284 := n7_; have HB := n8_; clear n0_ n1_ n2_ n3_ n4_ n5_ n6_ n7_ n8_; (try clear hb); (try clear hb2); (try clear hk); (try clear hi); (try clear ho0); (try clear ho1); (try clear ho2)) | ((with_reducible refine gate_dst (N := 7) rfl ?_); refine box_event ?hg (N := 7) ?hd (cs := #[.slice none 0 0, .slice none 0 0, .slice none 0 0]) (t := 31) ?hr ?_; (case hd => rfl); (case hg => rfl); (case hr => first | (go_simp; done) | (go_simp; rfl)); intro gb295 hg w24 hbox hb; have n0_ := Aside0.mk (Kd.V_below (Kd.V_elderB (by (with_reducible repeat (first | apply Kd.V_alloc | apply Kd.V_drewN | apply Kd.V_drew)); exact HO276.out) gb295 (Nat.le_of_eq hg.symm)) hb); have n1_ := Aside0.mk (Kd.V_below (Kd.V_elderB (by (with_reducible repeat (first | apply Kd.V_alloc | apply Kd.V_drewN | apply Kd.V_drew)); exact HO279.out) gb295 (Nat.le_of_eq hg.symm)) hb); have n2_ := Aside0.mk (Kd.V_below (Kd.V_elderB (by (with_reducible repeat (first | apply Kd.V_alloc | apply Kd.V_drewN | apply Kd.V_drew)); exact HO282.out) gb295 (Nat.le_of_eq hg.symm)) hb); have n3_ := Aside0.mk (Kd.V_below (Kd.V_elderB (by (with_reducible repeat (first | apply Kd.V_alloc | apply Kd.V_drewN | apply Kd.V_drew)); exact HO287.out) gb295 (Nat.le_of_eq hg.symm)) hb); have n4_ := Aside0.mk (Kd.V_below (Kd.V_elderB (by (with_reducible repeat (first | apply Kd.V_alloc | apply Kd.V_drewN | apply Kd.V_drew)); exact HO290.out) gb295 (Nat.le_of_eq hg.symm)) hb); have n5_ := Aside0.mk (Kd.V_below (Kd.V_elderB (by (with_reducible repeat (first | apply Kd.V_alloc | apply Kd.V_drewN | apply Kd.V_drew)); exact HO293.out) gb295 (Nat.le_of_eq hg.symm)) hb); have n6_ := Aside0.mk (blk_below (g := gb271) (o := .cells #[.slice A0_0 l0_0.length c0_0, .slice A0_1 l0_1.length c0_1, .int .i64 a0_2, .int .i64 a0_3, .int .i64 a0_4] 25 (0, 0)) (by (with_reducible repeat (first | refine blk_drewN ?_ _ | refine blk_drew ?_ | refine blk_alloc ?_ _)); exact BK271.out) hb); have n7_ := Aside0.mk (blk_below (g := gb284) (o := .cells #[.slice Ao17 t274.length co17, .slice Ao20 t277.length co20, .slice Ao21 t280.length co21] 31 (0, 0)) (by (with_reducible repeat (first | refine blk_drewN ?_ _ | refine blk_drew ?_ | refine blk_alloc ?_ _)); exact BK284.out) hb); have n8_ := Aside0.mk (below_step (by repeat (first | (with_reducible first | exact HB.out | apply below_alloc | apply pw_below_drewN | apply below_drew1 | refine below_set ?_ GE271.out | refine below_set ?_ GE284.out) | exact HB.out)) hb); have n9_ := Aside0.mk (hbox); have n10_ := Aside0.mk ((by rw [hg]; exact (below_size (by repeat (first | (with_reducible first | exact HB.out | apply below_alloc | apply pw_below_drewN | apply below_drew1 | refine below_set ?_ GE271.out | refine below_set ?_ GE284.out) | exact HB.out))) : w.heap.size ≤ gb295)); have n11_ := Aside0.mk ((by rw [hg]; exact (below_size (by repeat (first | (with_reducible first | exact HB.out | apply below_alloc | apply pw_below_drewN | apply below_drew1 | refine below_set ?_ GE271.out | refine below_set ?_ GE284.out) | exact HB.out))) : w.heap.size ≤ gb295)); have n12_ := Aside0.mk ((by rw [hg]; exact Nat.ne_of_lt (blk_lt (g := gb271) (o := .cells #[.slice A0_0 l0_0.length c0_0, .slice A0_1 l0_1.length c0_1, .int .i64 a0_2, .int .i64 a0_3, .int .i64 a0_4] 25 (0, 0)) (by (with_reducible repeat (first | refine blk_drewN ?_ _ | refine blk_drew ?_ | refine blk_alloc ?_ _)); exact BK271.out)) : gb271 ≠ gb295)); have n13_ := Aside0.mk ((by rw [hg]; exact Nat.ne_of_gt (blk_lt (g := gb271) (o := .cells #[.slice A0_0 l0_0.length c0_0, .slice A0_1 l0_1.length c0_1, .int .i64 a0_2, .int .i64 a0_3, .int .i64 a0_4] 25 (0, 0)) (by (with_reducible repeat (first | refine blk_drewN ?_ _ | refine blk_drew ?_ | refine blk_alloc ?_ _)); exact BK271.out)) : gb295 ≠ gb271)); have n14_ := Aside0.mk ((by rw [hg]; exact Nat.ne_of_lt (blk_lt (g := gb284) (o := .cells #[.slice Ao17 t274.length co17, .slice Ao20 t277.length co20, .slice Ao21 t280.length co21] 31 (0, 0)) (by (with_reducible repeat (first | refine blk_drewN ?_ _ | refine blk_drew ?_ | refine blk_alloc ?_ _)); exact BK284.out)) : gb284 ≠ gb295)); have n15_ := Aside0.mk ((by rw [hg]; exact Nat.ne_of_gt (blk_lt (g := gb284) (o := .cells #[.slice Ao17 t274.length co17, .slice Ao20 t277.length co20, .slice Ao21 t280.length co21] 31 (0, 0)) (by (with_reducible repeat (first | refine blk_drewN ?_ _ | refine blk_drew ?_ | refine blk_alloc ?_ _)); exact BK284.out)) : gb295 ≠ gb284)); clear HO276; clear HO279; clear HO282; clear HO287; clear HO290; clear HO293; clear BK271; clear BK284; clear HB; have HO276 := n0_; have HO279 := n1_; have HO282 := n2_; have HO287 := n3_; have HO290 := n4_; have HO293 := n5_; have BK271 := n6_; have BK284 := n7_; have HB := n8_; have BK295 := n9_; have GW295 := n10_; have GE295 := n11_; have NB271_295 := n12_; have NB295_271 := n13_; have NB284_295 := n14_; have NB295_284 := n15_; clear n0_ n1_ n2_ n3_ n4_ n5_ n6_ n7_ n8_ n9_ n10_ n11_ n12_ n13_ n14_ n15_; clear hb hbox hg; obtain ⟨Ao25, co25, eo25⟩ := Kd.V_slice HO287.out; subst eo25; have hnb26 := NB295_271.out; have hnc26 := NB271_295.out; have hnb27 := NB295_284.out; have hnc27 := NB284_295.out; have hcz28_0 : w24.cell? ⟨gb295, 0, none⟩ = some (.slice none 0 0) := (blk_cell BK295.out 0).trans rfl; have hcz28_1 : w24.cell? ⟨gb295, 1, none⟩ = some (.slice none 0 0) := (blk_cell BK295.out 1).trans rfl; have hcz28_2 : w24.cell? ⟨gb295, 2, none⟩ = some (.slice none 0 0) := (blk_cell BK295.out 2).trans rfl; have hfz28_0 := blk_frozen BK295.out 0; have hfz28_1 := blk_frozen BK295.out 1; have hfz28_2 := blk_frozen BK295.out 2; obtain ⟨Ao29, co29, eo29⟩ := Kd.V_slice HO290.out; subst eo29; obtain ⟨Ao30, co30, eo30⟩ := Kd.V_slice HO293.out; subst eo30))
      (try simp only [Act.put, List.setIfInBounds_toArray, List.set_cons_zero, List.set_cons_succ])
      go_cut [51] (fun v51 wc => ∃ (kq : Nat) (x51_8 : Bool), v51 = .bool x51_8 ∧ Aside0 (crossroadslaw17_ClassCounts.j0 kq t283 x51_8 l0_0 l0_1 a0_2 a0_3 a0_4 t274 t277 t280 = some r) ∧ Aside0 (kq ≤ k) ∧ Aside0 (Kd.V (Kd.slice 5 (Kd.int .u8)) 42 wc w.heap.size (fun k_ => k_ ≠ gb271 ∧ k_ ≠ gb284 ∧ k_ ≠ gb295) (.slice Ao17 t274.length co17) t274) ∧ Aside0 (Kd.V (Kd.slice 5 (Kd.int .u8)) 42 wc w.heap.size (fun k_ => k_ ≠ gb271 ∧ k_ ≠ gb284 ∧ k_ ≠ gb295) (.slice Ao20 t277.length co20) t277) ∧ Aside0 (Kd.V Kd.bool 4 wc w.heap.size (fun k_ => k_ ≠ gb271 ∧ k_ ≠ gb284 ∧ k_ ≠ gb295) (.slice Ao21 t280.length co21) t280) ∧ Aside0 (Kd.V (Kd.slice 5 (Kd.int .u8)) 42 wc w.heap.size (fun k_ => k_ ≠ gb271 ∧ k_ ≠ gb284 ∧ k_ ≠ gb295) (.slice Ao25 t285.length co25) t285) ∧ Aside0 (Kd.V (Kd.slice 5 (Kd.int .u8)) 42 wc w.heap.size (fun k_ => k_ ≠ gb271 ∧ k_ ≠ gb284 ∧ k_ ≠ gb295) (.slice Ao29 t288.length co29) t288) ∧ Aside0 (Kd.V Kd.bool 4 wc w.heap.size (fun k_ => k_ ≠ gb271 ∧ k_ ≠ gb284 ∧ k_ ≠ gb295) (.slice Ao30 t291.length co30) t291) ∧ Aside0 (wc.heap[gb271]? = some (.cells #[(.slice A0_0 l0_0.length c0_0), (.slice A0_1 l0_1.length c0_1), .int .i64 a0_2, .int .i64 a0_3, .int .i64 a0_4] 25 (0, 0))) ∧ Aside0 (wc.heap[gb284]? = some (.cells #[(.slice Ao17 t274.length co17), (.slice Ao20 t277.length co20), (.slice Ao21 t280.length co21)] 31 (0, 0))) ∧ Aside0 (wc.heap[gb295]? = some (.cells #[(.slice Ao25 t285.length co25), (.slice Ao29 t288.length co29), (.slice Ao30 t291.length co30)] 31 (0, 0))) ∧ Aside0 (Below w.heap.size w wc))
      case first =>
        have H := HC9.out
        clear HC9
        replace H := Option.bind_eq_some_iff.mp H
        obtain ⟨t296, A310, H⟩ := H
        replace H : ((crossroadsref17_May.f l0_0 l0_1 a0_2 a0_3 a0_4).bind fun t297 => (if (t296 != t297) = true then (crossroadslaw17_ClassCounts.j0 k t283 true l0_0 l0_1 a0_2 a0_3 a0_4 t274 t277 t280) else ((class_Count.f k l0_0 l0_1 a0_2 a0_3 a0_4).bind fun t298 => ((crossroadsref17_Count.f k l0_0 l0_1 a0_2 a0_3 a0_4).bind fun t299 => (if t298 = t299 then (if (t283 != t294) = true then (crossroadslaw17_ClassCounts.j0 k t283 true l0_0 l0_1 a0_2 a0_3 a0_4 t274 t277 t280) else ((crossroadsref17_Same.f k t274 t277 t280 t285 t288 t291).bind fun t300 => (crossroadslaw17_ClassCounts.j0 k t283 (!t300) l0_0 l0_1 a0_2 a0_3 a0_4 t274 t277 t280))) else (crossroadslaw17_ClassCounts.j0 k t283 true l0_0 l0_1 a0_2 a0_3 a0_4 t274 t277 t280)))))) = some r := H
        have A31 := Aside0.mk A310
        clear A310
        replace H := Option.bind_eq_some_iff.mp H
        obtain ⟨t297, A320, H⟩ := H
        replace H : (if (t296 != t297) = true then (crossroadslaw17_ClassCounts.j0 k t283 true l0_0 l0_1 a0_2 a0_3 a0_4 t274 t277 t280) else ((class_Count.f k l0_0 l0_1 a0_2 a0_3 a0_4).bind fun t298 => ((crossroadsref17_Count.f k l0_0 l0_1 a0_2 a0_3 a0_4).bind fun t299 => (if t298 = t299 then (if (t283 != t294) = true then (crossroadslaw17_ClassCounts.j0 k t283 true l0_0 l0_1 a0_2 a0_3 a0_4 t274 t277 t280) else ((crossroadsref17_Same.f k t274 t277 t280 t285 t288 t291).bind fun t300 => (crossroadslaw17_ClassCounts.j0 k t283 (!t300) l0_0 l0_1 a0_2 a0_3 a0_4 t274 t277 t280))) else (crossroadslaw17_ClassCounts.j0 k t283 true l0_0 l0_1 a0_2 a0_3 a0_4 t274 t277 t280))))) = some r := H
        have A32 := Aside0.mk A320
        clear A320
        by_cases c33 : (t296 != t297) = true
        · rw [if_pos c33] at H
          have c33b0 : (t296 != t297) = true := c33
          (try (have c33b1 : decide (t296 = t297) = false := by simpa using c33))
          (try (have c33b2 : (t296 == t297) = false := by simpa using c33))
          (try (have c33b3 : ¬ (t296 = t297) := by simpa using c33))
          clear c33
          (first | rw [c33b0] | (simp only [i64_w, i32_w]; rw [c33b0]) | (rw [c33b2]; (try simp only [Bool.not_true, Bool.not_false])) | skip)
          have H' := Aside0.mk H
          clear H
          try go_wp2
          have n0_ : Aside0 (Kd.V (Kd.slice 5 (Kd.int .u8)) 42 (((w24.setCell ⟨gb295, 0, none⟩ (.slice Ao25 t285.length co25)).setCell ⟨gb295, 1, none⟩ (.slice Ao29 t288.length co29)).setCell ⟨gb295, 2, none⟩ (.slice Ao30 t291.length co30)) w.heap.size (fun k_ => k_ ≠ gb271 ∧ k_ ≠ gb284 ∧ k_ ≠ gb295) (.slice Ao17 t274.length co17) t274) := ⟨by (with_reducible repeat (first | apply Kd.V_alloc | apply Kd.V_drewN | apply Kd.V_drew)); exact Kd.V_mono (Kd.V_far (p := ⟨gb295, 2, none⟩) (Kd.V_far (p := ⟨gb295, 1, none⟩) (Kd.V_far (p := ⟨gb295, 0, none⟩) (Kd.V_mono HO276.out (fun k_ hk => (⟨hk, hk.2⟩ : _ ∧ k_ ≠ gb295))) (fun _ hk => hk.2) (.slice Ao25 t285.length co25)) (fun _ hk => hk.2) (.slice Ao29 t288.length co29)) (fun _ hk => hk.2) (.slice Ao30 t291.length co30)) (fun _ hk => ⟨hk.1.1.1, ⟨hk.1.1.2, hk.1.2⟩⟩)⟩
          have n1_ : Aside0 (Kd.V (Kd.slice 5 (Kd.int .u8)) 42 (((w24.setCell ⟨gb295, 0, none⟩ (.slice Ao25 t285.length co25)).setCell ⟨gb295, 1, none⟩ (.slice Ao29 t288.length co29)).setCell ⟨gb295, 2, none⟩ (.slice Ao30 t291.length co30)) w.heap.size (fun k_ => k_ ≠ gb271 ∧ k_ ≠ gb284 ∧ k_ ≠ gb295) (.slice Ao20 t277.length co20) t277) := ⟨by (with_reducible repeat (first | apply Kd.V_alloc | apply Kd.V_drewN | apply Kd.V_drew)); exact Kd.V_mono (Kd.V_far (p := ⟨gb295, 2, none⟩) (Kd.V_far (p := ⟨gb295, 1, none⟩) (Kd.V_far (p := ⟨gb295, 0, none⟩) (Kd.V_mono HO279.out (fun k_ hk => (⟨hk, hk.2⟩ : _ ∧ k_ ≠ gb295))) (fun _ hk => hk.2) (.slice Ao25 t285.length co25)) (fun _ hk => hk.2) (.slice Ao29 t288.length co29)) (fun _ hk => hk.2) (.slice Ao30 t291.length co30)) (fun _ hk => ⟨hk.1.1.1, ⟨hk.1.1.2, hk.1.2⟩⟩)⟩
          have n2_ : Aside0 (Kd.V Kd.bool 4 (((w24.setCell ⟨gb295, 0, none⟩ (.slice Ao25 t285.length co25)).setCell ⟨gb295, 1, none⟩ (.slice Ao29 t288.length co29)).setCell ⟨gb295, 2, none⟩ (.slice Ao30 t291.length co30)) w.heap.size (fun k_ => k_ ≠ gb271 ∧ k_ ≠ gb284 ∧ k_ ≠ gb295) (.slice Ao21 t280.length co21) t280) := ⟨by (with_reducible repeat (first | apply Kd.V_alloc | apply Kd.V_drewN | apply Kd.V_drew)); exact Kd.V_mono (Kd.V_far (p := ⟨gb295, 2, none⟩) (Kd.V_far (p := ⟨gb295, 1, none⟩) (Kd.V_far (p := ⟨gb295, 0, none⟩) (Kd.V_mono HO282.out (fun k_ hk => (⟨hk, hk.2⟩ : _ ∧ k_ ≠ gb295))) (fun _ hk => hk.2) (.slice Ao25 t285.length co25)) (fun _ hk => hk.2) (.slice Ao29 t288.length co29)) (fun _ hk => hk.2) (.slice Ao30 t291.length co30)) (fun _ hk => ⟨hk.1.1.1, ⟨hk.1.1.2, hk.1.2⟩⟩)⟩
          have n3_ : Aside0 (Kd.V (Kd.slice 5 (Kd.int .u8)) 42 (((w24.setCell ⟨gb295, 0, none⟩ (.slice Ao25 t285.length co25)).setCell ⟨gb295, 1, none⟩ (.slice Ao29 t288.length co29)).setCell ⟨gb295, 2, none⟩ (.slice Ao30 t291.length co30)) w.heap.size (fun k_ => k_ ≠ gb271 ∧ k_ ≠ gb284 ∧ k_ ≠ gb295) (.slice Ao25 t285.length co25) t285) := ⟨by (with_reducible repeat (first | apply Kd.V_alloc | apply Kd.V_drewN | apply Kd.V_drew)); exact Kd.V_mono (Kd.V_far (p := ⟨gb295, 2, none⟩) (Kd.V_far (p := ⟨gb295, 1, none⟩) (Kd.V_far (p := ⟨gb295, 0, none⟩) (Kd.V_mono HO287.out (fun k_ hk => (⟨hk, hk.2⟩ : _ ∧ k_ ≠ gb295))) (fun _ hk => hk.2) (.slice Ao25 t285.length co25)) (fun _ hk => hk.2) (.slice Ao29 t288.length co29)) (fun _ hk => hk.2) (.slice Ao30 t291.length co30)) (fun _ hk => ⟨hk.1.1.1, ⟨hk.1.1.2, hk.1.2⟩⟩)⟩
          have n4_ : Aside0 (Kd.V (Kd.slice 5 (Kd.int .u8)) 42 (((w24.setCell ⟨gb295, 0, none⟩ (.slice Ao25 t285.length co25)).setCell ⟨gb295, 1, none⟩ (.slice Ao29 t288.length co29)).setCell ⟨gb295, 2, none⟩ (.slice Ao30 t291.length co30)) w.heap.size (fun k_ => k_ ≠ gb271 ∧ k_ ≠ gb284 ∧ k_ ≠ gb295) (.slice Ao29 t288.length co29) t288) := ⟨by (with_reducible repeat (first | apply Kd.V_alloc | apply Kd.V_drewN | apply Kd.V_drew)); exact Kd.V_mono (Kd.V_far (p := ⟨gb295, 2, none⟩) (Kd.V_far (p := ⟨gb295, 1, none⟩) (Kd.V_far (p := ⟨gb295, 0, none⟩) (Kd.V_mono HO290.out (fun k_ hk => (⟨hk, hk.2⟩ : _ ∧ k_ ≠ gb295))) (fun _ hk => hk.2) (.slice Ao25 t285.length co25)) (fun _ hk => hk.2) (.slice Ao29 t288.length co29)) (fun _ hk => hk.2) (.slice Ao30 t291.length co30)) (fun _ hk => ⟨hk.1.1.1, ⟨hk.1.1.2, hk.1.2⟩⟩)⟩
          have n5_ : Aside0 (Kd.V Kd.bool 4 (((w24.setCell ⟨gb295, 0, none⟩ (.slice Ao25 t285.length co25)).setCell ⟨gb295, 1, none⟩ (.slice Ao29 t288.length co29)).setCell ⟨gb295, 2, none⟩ (.slice Ao30 t291.length co30)) w.heap.size (fun k_ => k_ ≠ gb271 ∧ k_ ≠ gb284 ∧ k_ ≠ gb295) (.slice Ao30 t291.length co30) t291) := ⟨by (with_reducible repeat (first | apply Kd.V_alloc | apply Kd.V_drewN | apply Kd.V_drew)); exact Kd.V_mono (Kd.V_far (p := ⟨gb295, 2, none⟩) (Kd.V_far (p := ⟨gb295, 1, none⟩) (Kd.V_far (p := ⟨gb295, 0, none⟩) (Kd.V_mono HO293.out (fun k_ hk => (⟨hk, hk.2⟩ : _ ∧ k_ ≠ gb295))) (fun _ hk => hk.2) (.slice Ao25 t285.length co25)) (fun _ hk => hk.2) (.slice Ao29 t288.length co29)) (fun _ hk => hk.2) (.slice Ao30 t291.length co30)) (fun _ hk => ⟨hk.1.1.1, ⟨hk.1.1.2, hk.1.2⟩⟩)⟩
          have n6_ : Aside0 ((((w24.setCell ⟨gb295, 0, none⟩ (.slice Ao25 t285.length co25)).setCell ⟨gb295, 1, none⟩ (.slice Ao29 t288.length co29)).setCell ⟨gb295, 2, none⟩ (.slice Ao30 t291.length co30)).heap[gb271]? = some (.cells #[.slice A0_0 l0_0.length c0_0, .slice A0_1 l0_1.length c0_1, .int .i64 a0_2, .int .i64 a0_3, .int .i64 a0_4] 25 (0, 0))) := ⟨by (with_reducible repeat (first | refine blk_drewN ?_ _ | refine blk_drew ?_ | refine blk_alloc ?_ _)); refine blk_far ?_ NB271_295.out _; (with_reducible repeat (first | refine blk_drewN ?_ _ | refine blk_drew ?_ | refine blk_alloc ?_ _)); refine blk_far ?_ NB271_295.out _; (with_reducible repeat (first | refine blk_drewN ?_ _ | refine blk_drew ?_ | refine blk_alloc ?_ _)); refine blk_far ?_ NB271_295.out _; (with_reducible repeat (first | refine blk_drewN ?_ _ | refine blk_drew ?_ | refine blk_alloc ?_ _)); exact BK271.out⟩
          have n7_ : Aside0 ((((w24.setCell ⟨gb295, 0, none⟩ (.slice Ao25 t285.length co25)).setCell ⟨gb295, 1, none⟩ (.slice Ao29 t288.length co29)).setCell ⟨gb295, 2, none⟩ (.slice Ao30 t291.length co30)).heap[gb284]? = some (.cells #[.slice Ao17 t274.length co17, .slice Ao20 t277.length co20, .slice Ao21 t280.length co21] 31 (0, 0))) := ⟨by (with_reducible repeat (first | refine blk_drewN ?_ _ | refine blk_drew ?_ | refine blk_alloc ?_ _)); refine blk_far ?_ NB284_295.out _; (with_reducible repeat (first | refine blk_drewN ?_ _ | refine blk_drew ?_ | refine blk_alloc ?_ _)); refine blk_far ?_ NB284_295.out _; (with_reducible repeat (first | refine blk_drewN ?_ _ | refine blk_drew ?_ | refine blk_alloc ?_ _)); refine blk_far ?_ NB284_295.out _; (with_reducible repeat (first | refine blk_drewN ?_ _ | refine blk_drew ?_ | refine blk_alloc ?_ _)); exact BK284.out⟩
          have n8_ : Aside0 ((((w24.setCell ⟨gb295, 0, none⟩ (.slice Ao25 t285.length co25)).setCell ⟨gb295, 1, none⟩ (.slice Ao29 t288.length co29)).setCell ⟨gb295, 2, none⟩ (.slice Ao30 t291.length co30)).heap[gb295]? = some (.cells #[.slice Ao25 t285.length co25, .slice Ao29 t288.length co29, .slice Ao30 t291.length co30] 31 (0, 0))) := ⟨by (with_reducible repeat (first | refine blk_drewN ?_ _ | refine blk_drew ?_ | refine blk_alloc ?_ _)); refine blk_put (cs := #[.slice Ao25 t285.length co25, .slice Ao29 t288.length co29, .slice none 0 0]) ?_ 2 _ rfl; (with_reducible repeat (first | refine blk_drewN ?_ _ | refine blk_drew ?_ | refine blk_alloc ?_ _)); refine blk_put (cs := #[.slice Ao25 t285.length co25, .slice none 0 0, .slice none 0 0]) ?_ 1 _ rfl; (with_reducible repeat (first | refine blk_drewN ?_ _ | refine blk_drew ?_ | refine blk_alloc ?_ _)); refine blk_put (cs := #[.slice none 0 0, .slice none 0 0, .slice none 0 0]) ?_ 0 _ rfl; (with_reducible repeat (first | refine blk_drewN ?_ _ | refine blk_drew ?_ | refine blk_alloc ?_ _)); exact BK295.out⟩
          have n9_ : Aside0 (Below w.heap.size w (((w24.setCell ⟨gb295, 0, none⟩ (.slice Ao25 t285.length co25)).setCell ⟨gb295, 1, none⟩ (.slice Ao29 t288.length co29)).setCell ⟨gb295, 2, none⟩ (.slice Ao30 t291.length co30))) := ⟨by repeat (first | (with_reducible first | exact HB.out | apply below_alloc | apply pw_below_drewN | apply below_drew1 | refine below_set ?_ GE271.out | refine below_set ?_ GE284.out | refine below_set ?_ GE295.out) | exact HB.out)⟩
          (try clear HO276)
          (try clear HO279)
          (try clear HO282)
          (try clear HO287)
          (try clear HO290)
          (try clear HO293)
          (try clear BK271)
          (try clear BK284)
          (try clear BK295)
          (try clear HB)
          generalize (((w24.setCell ⟨gb295, 0, none⟩ (.slice Ao25 t285.length co25)).setCell ⟨gb295, 1, none⟩ (.slice Ao29 t288.length co29)).setCell ⟨gb295, 2, none⟩ (.slice Ao30 t291.length co30)) = w34 at n0_ n1_ n2_ n3_ n4_ n5_ n6_ n7_ n8_ n9_ ⊢
          have HO276 := n0_
          have HO279 := n1_
          have HO282 := n2_
          have HO287 := n3_
          have HO290 := n4_
          have HO293 := n5_
          have BK271 := n6_
          have BK284 := n7_
          have BK295 := n8_
          have HB := n9_
          clear n0_ n1_ n2_ n3_ n4_ n5_ n6_ n7_ n8_ n9_
          have n0_ := Aside0.mk (Kd.V_drew HO276.out)
          have n1_ := Aside0.mk (Kd.V_drew HO279.out)
          have n2_ := Aside0.mk (Kd.V_drew HO282.out)
          have n3_ := Aside0.mk (Kd.V_drew HO287.out)
          have n4_ := Aside0.mk (Kd.V_drew HO290.out)
          have n5_ := Aside0.mk (Kd.V_drew HO293.out)
          have n6_ := Aside0.mk (blk_drew BK271.out)
          have n7_ := Aside0.mk (blk_drew BK284.out)
          have n8_ := Aside0.mk (blk_drew BK295.out)
          have n9_ := Aside0.mk (below_drew1 HB.out)
          clear HO276
          clear HO279
          clear HO282
          clear HO287
          clear HO290
          clear HO293
          clear BK271
          clear BK284
          clear BK295
          clear HB
          have HO276 := n0_
          have HO279 := n1_
          have HO282 := n2_
          have HO287 := n3_
          have HO290 := n4_
          have HO293 := n5_
          have BK271 := n6_
          have BK284 := n7_
          have BK295 := n8_
          have HB := n9_
          clear n0_ n1_ n2_ n3_ n4_ n5_ n6_ n7_ n8_ n9_
          refine start_ (n := 23) (S := fun w' => w'.cell? ⟨gb271, 0, none⟩ = some (.slice A0_0 l0_0.length c0_0) ∧ w'.cell? ⟨gb271, 1, none⟩ = some (.slice A0_1 l0_1.length c0_1) ∧ w'.cell? ⟨gb271, 2, none⟩ = some (.int .i64 a0_2) ∧ w'.cell? ⟨gb271, 3, none⟩ = some (.int .i64 a0_3) ∧ w'.cell? ⟨gb271, 4, none⟩ = some (.int .i64 a0_4)) (ds := []) #[false, false, false, false, false, false, false, false, false, false, false, false, false, false, false, false, false, false, false, false, false, false, false] (by kernel_rfl) rfl rfl ⟨(blk_cell BK271.out 0).trans rfl, (blk_cell BK271.out 1).trans rfl, (blk_cell BK271.out 2).trans rfl, (blk_cell BK271.out 3).trans rfl, (blk_cell BK271.out 4).trans rfl⟩ (fun hHeld => ?_); refine with_tabW crossroadslaw17_ClassCounts.tab7 crossroadslaw17_ClassCounts.bits7 (fun HT_ HW_ => ?_)
          generalize w34.drew = w35 at HO276 HO279 HO282 HO287 HO290 HO293 BK271 BK284 BK295 HB hHeld ⊢
          refine take_ (i := 0) (N := some 29) (v := ?_) (a' := ?_) #[true, false, false, false, false, false, false, false, false, false, false, false, false, false, false, false, false, false, false, false, false, false, false] rfl rfl (take_ofW HT_.out HW_.out (by kernel_rfl)) (fun _ _ _ h => h) (Or.inl ⟨by rfl, ?_⟩) hHeld ?_ ?_
          rotate_left
          · rintro w' ⟨s0, s1, s2, s3, s4⟩
            go_simp
            with_reducible rfl
          rotate_left
          · simp only [Act.put, List.setIfInBounds_toArray, List.set_cons_zero, List.set_cons_succ, i64_w, i32_w]
            rfl
          refine take_ (i := 2) (N := some 31) (v := ?_) (a' := ?_) #[true, false, true, false, false, false, false, false, false, false, false, false, false, false, false, false, false, false, false, false, false, false, false] rfl rfl (take_ofW HT_.out HW_.out (by kernel_rfl)) (fun _ _ _ h => h) (Or.inl ⟨by rfl, ?_⟩) hHeld ?_ ?_
          rotate_left
          · rintro w' ⟨s0, s1, s2, s3, s4⟩
            go_simp
            with_reducible rfl
          rotate_left
          · simp only [Act.put, List.setIfInBounds_toArray, List.set_cons_zero, List.set_cons_succ, i64_w, i32_w]
            rfl
          refine one_ (i := 1) (N := some 30) #[true, true, true, false, false, false, false, false, false, false, false, false, false, false, false, false, false, false, false, false, false, false, false] rfl rfl (one_of HT_.out (by kernel_rfl)) (by decide) (fun K hK => ?_)
          refine goes_ Try.func13 (by kernel_rfl) rfl #[.agg #[.slice A0_0 l0_0.length c0_0, .slice A0_1 l0_1.length c0_1, .int .i64 a0_2, .int .i64 a0_3, .int .i64 a0_4]] (by rfl) rfl rfl (by (try simp only [List.map_toArray, List.map_cons, List.map_nil]); first | done | rfl | (simp only [List.length_drop, List.length_take]; rfl)) ?_
          with_reducible refine (class_May.calls _ _ l0_0 _ _ l0_1 a0_2 a0_3 a0_4 t296 _ ?side1 ?side2 ?side3 ?side4 A31.out).mono ?_
          (case side1 => repeat (first | exact (Kd.C_below HR0_0.out HB.out) | (with_reducible refine Kd.C_alloc ?_ _) | (with_reducible refine Kd.C_drewN ?_ _) | (with_reducible refine Kd.C_drew ?_)))
          (case side2 => exact HC0_0.out)
          (case side3 => repeat (first | exact (Kd.C_below HR0_1.out HB.out) | (with_reducible refine Kd.C_alloc ?_ _) | (with_reducible refine Kd.C_drewN ?_ _) | (with_reducible refine Kd.C_drew ?_)))
          (case side4 => exact HC0_1.out)
          rintro e w36 ⟨rfl, hb⟩
          refine ⟨_, rfl, ?_⟩
          have n0_ := Aside0.mk (Kd.V_below (by (with_reducible repeat (first | apply Kd.V_alloc | apply Kd.V_drewN | apply Kd.V_drew)); exact HO276.out) hb)
          have n1_ := Aside0.mk (Kd.V_below (by (with_reducible repeat (first | apply Kd.V_alloc | apply Kd.V_drewN | apply Kd.V_drew)); exact HO279.out) hb)
          have n2_ := Aside0.mk (Kd.V_below (by (with_reducible repeat (first | apply Kd.V_alloc | apply Kd.V_drewN | apply Kd.V_drew)); exact HO282.out) hb)
          have n3_ := Aside0.mk (Kd.V_below (by (with_reducible repeat (first | apply Kd.V_alloc | apply Kd.V_drewN | apply Kd.V_drew)); exact HO287.out) hb)
          have n4_ := Aside0.mk (Kd.V_below (by (with_reducible repeat (first | apply Kd.V_alloc | apply Kd.V_drewN | apply Kd.V_drew)); exact HO290.out) hb)
          have n5_ := Aside0.mk (Kd.V_below (by (with_reducible repeat (first | apply Kd.V_alloc | apply Kd.V_drewN | apply Kd.V_drew)); exact HO293.out) hb)
          have n6_ := Aside0.mk (blk_below (g := gb271) (o := .cells #[.slice A0_0 l0_0.length c0_0, .slice A0_1 l0_1.length c0_1, .int .i64 a0_2, .int .i64 a0_3, .int .i64 a0_4] 25 (0, 0)) (by (with_reducible repeat (first | refine blk_drewN ?_ _ | refine blk_drew ?_ | refine blk_alloc ?_ _)); exact BK271.out) hb)
          have n7_ := Aside0.mk (blk_below (g := gb284) (o := .cells #[.slice Ao17 t274.length co17, .slice Ao20 t277.length co20, .slice Ao21 t280.length co21] 31 (0, 0)) (by (with_reducible repeat (first | refine blk_drewN ?_ _ | refine blk_drew ?_ | refine blk_alloc ?_ _)); exact BK284.out) hb)
          have n8_ := Aside0.mk (blk_below (g := gb295) (o := .cells #[.slice Ao25 t285.length co25, .slice Ao29 t288.length co29, .slice Ao30 t291.length co30] 31 (0, 0)) (by (with_reducible repeat (first | refine blk_drewN ?_ _ | refine blk_drew ?_ | refine blk_alloc ?_ _)); exact BK295.out) hb)
          have n9_ := Aside0.mk (below_step (by repeat (first | (with_reducible first | exact HB.out | apply below_alloc | apply pw_below_drewN | apply below_drew1 | refine below_set ?_ GE271.out | refine below_set ?_ GE284.out | refine below_set ?_ GE295.out) | exact HB.out)) hb)
          clear HO276
          clear HO279
          clear HO282
          clear HO287
          clear HO290
          clear HO293
          clear BK271
          clear BK284
          clear BK295
          clear HB
          have HO276 := n0_
          have HO279 := n1_
          have HO282 := n2_
          have HO287 := n3_
          have HO290 := n4_
          have HO293 := n5_
          have BK271 := n6_
          have BK284 := n7_
          have BK295 := n8_
          have HB := n9_
          clear n0_ n1_ n2_ n3_ n4_ n5_ n6_ n7_ n8_ n9_
          (try clear hb)
          (try clear hb2)
          (try clear hk)
          (try clear hi)
          refine hK.out _ _ ⟨(blk_cell BK271.out 0).trans rfl, (blk_cell BK271.out 1).trans rfl, (blk_cell BK271.out 2).trans rfl, (blk_cell BK271.out 3).trans rfl, (blk_cell BK271.out 4).trans rfl⟩ (fun hHeld => ?_)
          clear hK K
          refine norm_ (a' := ?_) ?_ ?_
          rotate_left
          · show Act.put _ (some 30) _ = _
            simp only [Act.put, List.setIfInBounds_toArray, List.set_cons_zero, List.set_cons_succ, i64_w, i32_w]
            rfl
          refine one_ (i := 3) (N := some 32) #[true, true, true, true, false, false, false, false, false, false, false, false, false, false, false, false, false, false, false, false, false, false, false] rfl rfl (one_of HT_.out (by kernel_rfl)) (by decide) (fun K hK => ?_)
          refine goes_ Try.func14 (by kernel_rfl) rfl #[.agg #[.slice A0_0 l0_0.length c0_0, .slice A0_1 l0_1.length c0_1, .int .i64 a0_2, .int .i64 a0_3, .int .i64 a0_4]] (by rfl) rfl rfl (by (try simp only [List.map_toArray, List.map_cons, List.map_nil]); first | done | rfl | (simp only [List.length_drop, List.length_take]; rfl)) ?_
          with_reducible refine (crossroadsref17_May.calls _ _ l0_0 _ _ l0_1 a0_2 a0_3 a0_4 t297 _ ?side1 ?side2 ?side3 ?side4 A32.out).mono ?_
          (case side1 => repeat (first | exact (Kd.C_below HR0_0.out HB.out) | (with_reducible refine Kd.C_alloc ?_ _) | (with_reducible refine Kd.C_drewN ?_ _) | (with_reducible refine Kd.C_drew ?_)))
          (case side2 => exact HC0_0.out)
          (case side3 => repeat (first | exact (Kd.C_below HR0_1.out HB.out) | (with_reducible refine Kd.C_alloc ?_ _) | (with_reducible refine Kd.C_drewN ?_ _) | (with_reducible refine Kd.C_drew ?_)))
          (case side4 => exact HC0_1.out)
          rintro e w37 ⟨rfl, hb⟩
          refine ⟨_, rfl, ?_⟩
          have n0_ := Aside0.mk (Kd.V_below (by (with_reducible repeat (first | apply Kd.V_alloc | apply Kd.V_drewN | apply Kd.V_drew)); exact HO276.out) hb)
          have n1_ := Aside0.mk (Kd.V_below (by (with_reducible repeat (first | apply Kd.V_alloc | apply Kd.V_drewN | apply Kd.V_drew)); exact HO279.out) hb)
          have n2_ := Aside0.mk (Kd.V_below (by (with_reducible repeat (first | apply Kd.V_alloc | apply Kd.V_drewN | apply Kd.V_drew)); exact HO282.out) hb)
          have n3_ := Aside0.mk (Kd.V_below (by (with_reducible repeat (first | apply Kd.V_alloc | apply Kd.V_drewN | apply Kd.V_drew)); exact HO287.out) hb)
          have n4_ := Aside0.mk (Kd.V_below (by (with_reducible repeat (first | apply Kd.V_alloc | apply Kd.V_drewN | apply Kd.V_drew)); exact HO290.out) hb)
          have n5_ := Aside0.mk (Kd.V_below (by (with_reducible repeat (first | apply Kd.V_alloc | apply Kd.V_drewN | apply Kd.V_drew)); exact HO293.out) hb)
          have n6_ := Aside0.mk (blk_below (g := gb271) (o := .cells #[.slice A0_0 l0_0.length c0_0, .slice A0_1 l0_1.length c0_1, .int .i64 a0_2, .int .i64 a0_3, .int .i64 a0_4] 25 (0, 0)) (by (with_reducible repeat (first | refine blk_drewN ?_ _ | refine blk_drew ?_ | refine blk_alloc ?_ _)); exact BK271.out) hb)
          have n7_ := Aside0.mk (blk_below (g := gb284) (o := .cells #[.slice Ao17 t274.length co17, .slice Ao20 t277.length co20, .slice Ao21 t280.length co21] 31 (0, 0)) (by (with_reducible repeat (first | refine blk_drewN ?_ _ | refine blk_drew ?_ | refine blk_alloc ?_ _)); exact BK284.out) hb)
          have n8_ := Aside0.mk (blk_below (g := gb295) (o := .cells #[.slice Ao25 t285.length co25, .slice Ao29 t288.length co29, .slice Ao30 t291.length co30] 31 (0, 0)) (by (with_reducible repeat (first | refine blk_drewN ?_ _ | refine blk_drew ?_ | refine blk_alloc ?_ _)); exact BK295.out) hb)
          have n9_ := Aside0.mk (below_step (by repeat (first | (with_reducible first | exact HB.out | apply below_alloc | apply pw_below_drewN | apply below_drew1 | refine below_set ?_ GE271.out | refine below_set ?_ GE284.out | refine below_set ?_ GE295.out) | exact HB.out)) hb)
          clear HO276
          clear HO279
          clear HO282
          clear HO287
          clear HO290
          clear HO293
          clear BK271
          clear BK284
          clear BK295
          clear HB
          have HO276 := n0_
          have HO279 := n1_
          have HO282 := n2_
          have HO287 := n3_
          have HO290 := n4_
          have HO293 := n5_
          have BK271 := n6_
          have BK284 := n7_
          have BK295 := n8_
          have HB := n9_
          clear n0_ n1_ n2_ n3_ n4_ n5_ n6_ n7_ n8_ n9_
          (try clear hb)
          (try clear hb2)
          (try clear hk)
          (try clear hi)
          refine hK.out _ _ ⟨(blk_cell BK271.out 0).trans rfl, (blk_cell BK271.out 1).trans rfl, (blk_cell BK271.out 2).trans rfl, (blk_cell BK271.out 3).trans rfl, (blk_cell BK271.out 4).trans rfl⟩ (fun hHeld => ?_)
          clear hK K
          refine norm_ (a' := ?_) ?_ ?_
          rotate_left
          · show Act.put _ (some 32) _ = _
            simp only [Act.put, List.setIfInBounds_toArray, List.set_cons_zero, List.set_cons_succ, i64_w, i32_w]
            rfl
          refine pure_ (i := 4) (N := some 33) (v := ?_) (a' := ?_) #[true, true, true, true, true, false, false, false, false, false, false, false, false, false, false, false, false, false, false, false, false, false, false] rfl rfl (any_of HT_.out (by kernel_rfl)) (fun _ _ _ h => h) (Or.inl ⟨by rfl, ?_⟩) ?_ ?_
          rotate_left
          · intro w'
            go_simp
            with_reducible rfl
          rotate_left
          · simp only [Act.put, List.setIfInBounds_toArray, List.set_cons_zero, List.set_cons_succ, i64_w, i32_w]
            rfl
          refine pure_ (i := 5) (N := some 34) (v := ?_) (a' := ?_) #[true, true, true, true, true, true, false, false, false, false, false, false, false, false, false, false, false, false, false, false, false, false, false] rfl rfl (any_of HT_.out (by kernel_rfl)) (fun _ _ _ h => h) (Or.inl ⟨by rfl, ?_⟩) ?_ ?_
          rotate_left
          · intro w'
            go_simp
            with_reducible rfl
          rotate_left
          · simp only [Act.put, List.setIfInBounds_toArray, List.set_cons_zero, List.set_cons_succ, i64_w, i32_w]
            rfl
          refine pure_ (i := 6) (N := some 35) (v := undef) (a' := ?_) #[true, true, true, true, true, true, true, false, false, false, false, false, false, false, false, false, false, false, false, false, false, false, false] rfl rfl (any_of HT_.out (by kernel_rfl)) (fun _ _ _ h => h) (Or.inr ⟨by rfl, rfl⟩) ?_ ?_
          rotate_left
          · simp only [Act.put, List.setIfInBounds_toArray, List.set_cons_zero, List.set_cons_succ, i64_w, i32_w]
            rfl
          refine pure_ (i := 7) (N := some 36) (v := undef) (a' := ?_) #[true, true, true, true, true, true, true, true, false, false, false, false, false, false, false, false, false, false, false, false, false, false, false] rfl rfl (any_of HT_.out (by kernel_rfl)) (fun _ _ _ h => h) (Or.inr ⟨by rfl, rfl⟩) ?_ ?_
          rotate_left
          · simp only [Act.put, List.setIfInBounds_toArray, List.set_cons_zero, List.set_cons_succ, i64_w, i32_w]
            rfl
          refine pure_ (i := 8) (N := some 37) (v := undef) (a' := ?_) #[true, true, true, true, true, true, true, true, true, false, false, false, false, false, false, false, false, false, false, false, false, false, false] rfl rfl (any_of HT_.out (by kernel_rfl)) (fun _ _ _ h => h) (Or.inr ⟨by rfl, rfl⟩) ?_ ?_
          rotate_left
          · simp only [Act.put, List.setIfInBounds_toArray, List.set_cons_zero, List.set_cons_succ, i64_w, i32_w]
            rfl
          refine pure_ (i := 9) (N := some 38) (v := undef) (a' := ?_) #[true, true, true, true, true, true, true, true, true, true, false, false, false, false, false, false, false, false, false, false, false, false, false] rfl rfl (any_of HT_.out (by kernel_rfl)) (fun _ _ _ h => h) (Or.inr ⟨by rfl, rfl⟩) ?_ ?_
          rotate_left
          · simp only [Act.put, List.setIfInBounds_toArray, List.set_cons_zero, List.set_cons_succ, i64_w, i32_w]
            rfl
          refine pure_ (i := 10) (N := some 39) (v := undef) (a' := ?_) #[true, true, true, true, true, true, true, true, true, true, true, false, false, false, false, false, false, false, false, false, false, false, false] rfl rfl (any_of HT_.out (by kernel_rfl)) (fun _ _ _ h => h) (Or.inr ⟨by rfl, rfl⟩) ?_ ?_
          rotate_left
          · simp only [Act.put, List.setIfInBounds_toArray, List.set_cons_zero, List.set_cons_succ, i64_w, i32_w]
            rfl
          refine pure_ (i := 11) (N := some 40) (v := ?_) (a' := ?_) #[true, true, true, true, true, true, true, true, true, true, true, true, false, false, false, false, false, false, false, false, false, false, false] rfl rfl (any_of HT_.out (by kernel_rfl)) (fun _ _ _ h => h) (Or.inl ⟨by rfl, ?_⟩) ?_ ?_
          rotate_left
          · intro w'
            go_simp
            with_reducible rfl
          rotate_left
          · simp only [Act.put, List.setIfInBounds_toArray, List.set_cons_zero, List.set_cons_succ, i64_w, i32_w]
            rfl
          refine pure_ (i := 12) (N := some 41) (v := ?_) (a' := ?_) #[true, true, true, true, true, true, true, true, true, true, true, true, true, false, false, false, false, false, false, false, false, false, false] rfl rfl (any_of HT_.out (by kernel_rfl)) (fun _ _ _ h => h) (Or.inl ⟨by rfl, ?_⟩) ?_ ?_
          rotate_left
          · intro w'
            go_simp
            with_reducible rfl
          rotate_left
          · simp only [Act.put, List.setIfInBounds_toArray, List.set_cons_zero, List.set_cons_succ, i64_w, i32_w]
            rfl
          refine pure_ (i := 13) (N := some 42) (v := undef) (a' := ?_) #[true, true, true, true, true, true, true, true, true, true, true, true, true, true, false, false, false, false, false, false, false, false, false] rfl rfl (any_of HT_.out (by kernel_rfl)) (fun _ _ _ h => h) (Or.inr ⟨by rfl, rfl⟩) ?_ ?_
          rotate_left
          · simp only [Act.put, List.setIfInBounds_toArray, List.set_cons_zero, List.set_cons_succ, i64_w, i32_w]
            rfl
          refine pure_ (i := 14) (N := some 43) (v := undef) (a' := ?_) #[true, true, true, true, true, true, true, true, true, true, true, true, true, true, true, false, false, false, false, false, false, false, false] rfl rfl (any_of HT_.out (by kernel_rfl)) (fun _ _ _ h => h) (Or.inr ⟨by rfl, rfl⟩) ?_ ?_
          rotate_left
          · simp only [Act.put, List.setIfInBounds_toArray, List.set_cons_zero, List.set_cons_succ, i64_w, i32_w]
            rfl
          refine pure_ (i := 15) (N := some 44) (v := undef) (a' := ?_) #[true, true, true, true, true, true, true, true, true, true, true, true, true, true, true, true, false, false, false, false, false, false, false] rfl rfl (any_of HT_.out (by kernel_rfl)) (fun _ _ _ h => h) (Or.inr ⟨by rfl, rfl⟩) ?_ ?_
          rotate_left
          · simp only [Act.put, List.setIfInBounds_toArray, List.set_cons_zero, List.set_cons_succ, i64_w, i32_w]
            rfl
          refine pure_ (i := 16) (N := some 45) (v := ?_) (a' := ?_) #[true, true, true, true, true, true, true, true, true, true, true, true, true, true, true, true, true, false, false, false, false, false, false] rfl rfl (any_of HT_.out (by kernel_rfl)) (fun _ _ _ h => h) (Or.inl ⟨by rfl, ?_⟩) ?_ ?_
          rotate_left
          · intro w'
            go_simp
            with_reducible rfl
          rotate_left
          · simp only [Act.put, List.setIfInBounds_toArray, List.set_cons_zero, List.set_cons_succ, i64_w, i32_w]
            rfl
          refine pure_ (i := 17) (N := some 46) (v := ?_) (a' := ?_) #[true, true, true, true, true, true, true, true, true, true, true, true, true, true, true, true, true, true, false, false, false, false, false] rfl rfl (any_of HT_.out (by kernel_rfl)) (fun _ _ _ h => h) (Or.inl ⟨by rfl, ?_⟩) ?_ ?_
          rotate_left
          · intro w'
            go_simp
            with_reducible rfl
          rotate_left
          · simp only [Act.put, List.setIfInBounds_toArray, List.set_cons_zero, List.set_cons_succ, i64_w, i32_w]
            rfl
          refine pure_ (i := 18) (N := some 47) (v := undef) (a' := ?_) #[true, true, true, true, true, true, true, true, true, true, true, true, true, true, true, true, true, true, true, false, false, false, false] rfl rfl (any_of HT_.out (by kernel_rfl)) (fun _ _ _ h => h) (Or.inr ⟨by rfl, rfl⟩) ?_ ?_
          rotate_left
          · simp only [Act.put, List.setIfInBounds_toArray, List.set_cons_zero, List.set_cons_succ, i64_w, i32_w]
            rfl
          refine pure_ (i := 19) (N := some 48) (v := undef) (a' := ?_) #[true, true, true, true, true, true, true, true, true, true, true, true, true, true, true, true, true, true, true, true, false, false, false] rfl rfl (any_of HT_.out (by kernel_rfl)) (fun _ _ _ h => h) (Or.inr ⟨by rfl, rfl⟩) ?_ ?_
          rotate_left
          · simp only [Act.put, List.setIfInBounds_toArray, List.set_cons_zero, List.set_cons_succ, i64_w, i32_w]
            rfl
          refine pure_ (i := 20) (N := some 49) (v := undef) (a' := ?_) #[true, true, true, true, true, true, true, true, true, true, true, true, true, true, true, true, true, true, true, true, true, false, false] rfl rfl (any_of HT_.out (by kernel_rfl)) (fun _ _ _ h => h) (Or.inr ⟨by rfl, rfl⟩) ?_ ?_
          rotate_left
          · simp only [Act.put, List.setIfInBounds_toArray, List.set_cons_zero, List.set_cons_succ, i64_w, i32_w]
            rfl
          refine pure_ (i := 21) (N := some 50) (v := undef) (a' := ?_) #[true, true, true, true, true, true, true, true, true, true, true, true, true, true, true, true, true, true, true, true, true, true, false] rfl rfl (any_of HT_.out (by kernel_rfl)) (fun _ _ _ h => h) (Or.inr ⟨by rfl, rfl⟩) ?_ ?_
          rotate_left
          · simp only [Act.put, List.setIfInBounds_toArray, List.set_cons_zero, List.set_cons_succ, i64_w, i32_w]
            rfl
          refine pure_ (i := 22) (N := some 51) (v := ?_) (a' := ?_) #[true, true, true, true, true, true, true, true, true, true, true, true, true, true, true, true, true, true, true, true, true, true, true] rfl rfl (any_of HT_.out (by kernel_rfl)) (fun _ _ _ h => h) (Or.inl ⟨by rfl, ?_⟩) ?_ ?_
          rotate_left
          · intro w'
            go_simp
            with_reducible rfl
          rotate_left
          · simp only [Act.put, List.setIfInBounds_toArray, List.set_cons_zero, List.set_cons_succ, i64_w, i32_w]
            rfl
          refine done_ (done_of HT_.out (by kernel_rfl)) ?_
          try go_wp2
          go_meet
          case rel => exact ⟨_, (true), (by first | rfl | (simp; done) | (simp [*]; done)), H', ⟨by first | omega | exact Nat.le_refl _⟩, ⟨by (with_reducible repeat (first | apply Kd.V_alloc | apply Kd.V_drewN | apply Kd.V_drew)); exact HO276.out⟩, ⟨by (with_reducible repeat (first | apply Kd.V_alloc | apply Kd.V_drewN | apply Kd.V_drew)); exact HO279.out⟩, ⟨by (with_reducible repeat (first | apply Kd.V_alloc | apply Kd.V_drewN | apply Kd.V_drew)); exact HO282.out⟩, ⟨by (with_reducible repeat (first | apply Kd.V_alloc | apply Kd.V_drewN | apply Kd.V_drew)); exact HO287.out⟩, ⟨by (with_reducible repeat (first | apply Kd.V_alloc | apply Kd.V_drewN | apply Kd.V_drew)); exact HO290.out⟩, ⟨by (with_reducible repeat (first | apply Kd.V_alloc | apply Kd.V_drewN | apply Kd.V_drew)); exact HO293.out⟩, ⟨by (with_reducible repeat (first | refine blk_drewN ?_ _ | refine blk_drew ?_ | refine blk_alloc ?_ _)); exact BK271.out⟩, ⟨by (with_reducible repeat (first | refine blk_drewN ?_ _ | refine blk_drew ?_ | refine blk_alloc ?_ _)); exact BK284.out⟩, ⟨by (with_reducible repeat (first | refine blk_drewN ?_ _ | refine blk_drew ?_ | refine blk_alloc ?_ _)); exact BK295.out⟩, ⟨by repeat (first | (with_reducible first | exact HB.out | apply below_alloc | apply pw_below_drewN | apply below_drew1 | refine below_set ?_ GE271.out | refine below_set ?_ GE284.out | refine below_set ?_ GE295.out) | exact HB.out)⟩⟩
        · rw [if_neg c33] at H
          have c33b0 : (t296 != t297) = false := by simpa using c33
          (try (have c33b1 : decide (t296 = t297) = true := by simpa using c33))
          (try (have c33b2 : (t296 == t297) = true := by simpa using c33))
          clear c33
          (first | rw [c33b0] | (simp only [i64_w, i32_w]; rw [c33b0]) | (rw [c33b2]; (try simp only [Bool.not_true, Bool.not_false])) | skip)
          replace H := Option.bind_eq_some_iff.mp H
          obtain ⟨t298, A380, H⟩ := H
          replace H : ((crossroadsref17_Count.f k l0_0 l0_1 a0_2 a0_3 a0_4).bind fun t299 => (if t298 = t299 then (if (t283 != t294) = true then (crossroadslaw17_ClassCounts.j0 k t283 true l0_0 l0_1 a0_2 a0_3 a0_4 t274 t277 t280) else ((crossroadsref17_Same.f k t274 t277 t280 t285 t288 t291).bind fun t300 => (crossroadslaw17_ClassCounts.j0 k t283 (!t300) l0_0 l0_1 a0_2 a0_3 a0_4 t274 t277 t280))) else (crossroadslaw17_ClassCounts.j0 k t283 true l0_0 l0_1 a0_2 a0_3 a0_4 t274 t277 t280))) = some r := H
          have A38 := Aside0.mk A380
          clear A380
          replace H := Option.bind_eq_some_iff.mp H
          obtain ⟨t299, A390, H⟩ := H
          replace H : (if t298 = t299 then (if (t283 != t294) = true then (crossroadslaw17_ClassCounts.j0 k t283 true l0_0 l0_1 a0_2 a0_3 a0_4 t274 t277 t280) else ((crossroadsref17_Same.f k t274 t277 t280 t285 t288 t291).bind fun t300 => (crossroadslaw17_ClassCounts.j0 k t283 (!t300) l0_0 l0_1 a0_2 a0_3 a0_4 t274 t277 t280))) else (crossroadslaw17_ClassCounts.j0 k t283 true l0_0 l0_1 a0_2 a0_3 a0_4 t274 t277 t280)) = some r := H
          have A39 := Aside0.mk A390
          clear A390
          by_cases c40 : t298 = t299
          · rw [if_pos c40] at H
            have c40b0 : (t298 == t299) = true := beq_iff_eq.mpr c40
            have c40b1 : (t298 != t299) = false := bne_eq_false_iff_eq.mpr c40
            clear c40
            by_cases c41 : (t283 != t294) = true
            · rw [if_pos c41] at H
              have c41b0 : (t283 != t294) = true := c41
              (try (have c41b1 : decide (t283 = t294) = false := by simpa using c41))
              (try (have c41b2 : (t283 == t294) = false := by simpa using c41))
              (try (have c41b3 : ¬ (t283 = t294) := by simpa using c41))
              clear c41
              have H' := Aside0.mk H
              clear H
              try go_wp2
              have n0_ : Aside0 (Kd.V (Kd.slice 5 (Kd.int .u8)) 42 (((w24.setCell ⟨gb295, 0, none⟩ (.slice Ao25 t285.length co25)).setCell ⟨gb295, 1, none⟩ (.slice Ao29 t288.length co29)).setCell ⟨gb295, 2, none⟩ (.slice Ao30 t291.length co30)) w.heap.size (fun k_ => k_ ≠ gb271 ∧ k_ ≠ gb284 ∧ k_ ≠ gb295) (.slice Ao17 t274.length co17) t274) := ⟨by (with_reducible repeat (first | apply Kd.V_alloc | apply Kd.V_drewN | apply Kd.V_drew)); exact Kd.V_mono (Kd.V_far (p := ⟨gb295, 2, none⟩) (Kd.V_far (p := ⟨gb295, 1, none⟩) (Kd.V_far (p := ⟨gb295, 0, none⟩) (Kd.V_mono HO276.out (fun k_ hk => (⟨hk, hk.2⟩ : _ ∧ k_ ≠ gb295))) (fun _ hk => hk.2) (.slice Ao25 t285.length co25)) (fun _ hk => hk.2) (.slice Ao29 t288.length co29)) (fun _ hk => hk.2) (.slice Ao30 t291.length co30)) (fun _ hk => ⟨hk.1.1.1, ⟨hk.1.1.2, hk.1.2⟩⟩)⟩
              have n1_ : Aside0 (Kd.V (Kd.slice 5 (Kd.int .u8)) 42 (((w24.setCell ⟨gb295, 0, none⟩ (.slice Ao25 t285.length co25)).setCell ⟨gb295, 1, none⟩ (.slice Ao29 t288.length co29)).setCell ⟨gb295, 2, none⟩ (.slice Ao30 t291.length co30)) w.heap.size (fun k_ => k_ ≠ gb271 ∧ k_ ≠ gb284 ∧ k_ ≠ gb295) (.slice Ao20 t277.length co20) t277) := ⟨by (with_reducible repeat (first | apply Kd.V_alloc | apply Kd.V_drewN | apply Kd.V_drew)); exact Kd.V_mono (Kd.V_far (p := ⟨gb295, 2, none⟩) (Kd.V_far (p := ⟨gb295, 1, none⟩) (Kd.V_far (p := ⟨gb295, 0, none⟩) (Kd.V_mono HO279.out (fun k_ hk => (⟨hk, hk.2⟩ : _ ∧ k_ ≠ gb295))) (fun _ hk => hk.2) (.slice Ao25 t285.length co25)) (fun _ hk => hk.2) (.slice Ao29 t288.length co29)) (fun _ hk => hk.2) (.slice Ao30 t291.length co30)) (fun _ hk => ⟨hk.1.1.1, ⟨hk.1.1.2, hk.1.2⟩⟩)⟩
              have n2_ : Aside0 (Kd.V Kd.bool 4 (((w24.setCell ⟨gb295, 0, none⟩ (.slice Ao25 t285.length co25)).setCell ⟨gb295, 1, none⟩ (.slice Ao29 t288.length co29)).setCell ⟨gb295, 2, none⟩ (.slice Ao30 t291.length co30)) w.heap.size (fun k_ => k_ ≠ gb271 ∧ k_ ≠ gb284 ∧ k_ ≠ gb295) (.slice Ao21 t280.length co21) t280) := ⟨by (with_reducible repeat (first | apply Kd.V_alloc | apply Kd.V_drewN | apply Kd.V_drew)); exact Kd.V_mono (Kd.V_far (p := ⟨gb295, 2, none⟩) (Kd.V_far (p := ⟨gb295, 1, none⟩) (Kd.V_far (p := ⟨gb295, 0, none⟩) (Kd.V_mono HO282.out (fun k_ hk => (⟨hk, hk.2⟩ : _ ∧ k_ ≠ gb295))) (fun _ hk => hk.2) (.slice Ao25 t285.length co25)) (fun _ hk => hk.2) (.slice Ao29 t288.length co29)) (fun _ hk => hk.2) (.slice Ao30 t291.length co30)) (fun _ hk => ⟨hk.1.1.1, ⟨hk.1.1.2, hk.1.2⟩⟩)⟩
              have n3_ : Aside0 (Kd.V (Kd.slice 5 (Kd.int .u8)) 42 (((w24.setCell ⟨gb295, 0, none⟩ (.slice Ao25 t285.length co25)).setCell ⟨gb295, 1, none⟩ (.slice Ao29 t288.length co29)).setCell ⟨gb295, 2, none⟩ (.slice Ao30 t291.length co30)) w.heap.size (fun k_ => k_ ≠ gb271 ∧ k_ ≠ gb284 ∧ k_ ≠ gb295) (.slice Ao25 t285.length co25) t285) := ⟨by (with_reducible repeat (first | apply Kd.V_alloc | apply Kd.V_drewN | apply Kd.V_drew)); exact Kd.V_mono (Kd.V_far (p := ⟨gb295, 2, none⟩) (Kd.V_far (p := ⟨gb295, 1, none⟩) (Kd.V_far (p := ⟨gb295, 0, none⟩) (Kd.V_mono HO287.out (fun k_ hk => (⟨hk, hk.2⟩ : _ ∧ k_ ≠ gb295))) (fun _ hk => hk.2) (.slice Ao25 t285.length co25)) (fun _ hk => hk.2) (.slice Ao29 t288.length co29)) (fun _ hk => hk.2) (.slice Ao30 t291.length co30)) (fun _ hk => ⟨hk.1.1.1, ⟨hk.1.1.2, hk.1.2⟩⟩)⟩
              have n4_ : Aside0 (Kd.V (Kd.slice 5 (Kd.int .u8)) 42 (((w24.setCell ⟨gb295, 0, none⟩ (.slice Ao25 t285.length co25)).setCell ⟨gb295, 1, none⟩ (.slice Ao29 t288.length co29)).setCell ⟨gb295, 2, none⟩ (.slice Ao30 t291.length co30)) w.heap.size (fun k_ => k_ ≠ gb271 ∧ k_ ≠ gb284 ∧ k_ ≠ gb295) (.slice Ao29 t288.length co29) t288) := ⟨by (with_reducible repeat (first | apply Kd.V_alloc | apply Kd.V_drewN | apply Kd.V_drew)); exact Kd.V_mono (Kd.V_far (p := ⟨gb295, 2, none⟩) (Kd.V_far (p := ⟨gb295, 1, none⟩) (Kd.V_far (p := ⟨gb295, 0, none⟩) (Kd.V_mono HO290.out (fun k_ hk => (⟨hk, hk.2⟩ : _ ∧ k_ ≠ gb295))) (fun _ hk => hk.2) (.slice Ao25 t285.length co25)) (fun _ hk => hk.2) (.slice Ao29 t288.length co29)) (fun _ hk => hk.2) (.slice Ao30 t291.length co30)) (fun _ hk => ⟨hk.1.1.1, ⟨hk.1.1.2, hk.1.2⟩⟩)⟩
              have n5_ : Aside0 (Kd.V Kd.bool 4 (((w24.setCell ⟨gb295, 0, none⟩ (.slice Ao25 t285.length co25)).setCell ⟨gb295, 1, none⟩ (.slice Ao29 t288.length co29)).setCell ⟨gb295, 2, none⟩ (.slice Ao30 t291.length co30)) w.heap.size (fun k_ => k_ ≠ gb271 ∧ k_ ≠ gb284 ∧ k_ ≠ gb295) (.slice Ao30 t291.length co30) t291) := ⟨by (with_reducible repeat (first | apply Kd.V_alloc | apply Kd.V_drewN | apply Kd.V_drew)); exact Kd.V_mono (Kd.V_far (p := ⟨gb295, 2, none⟩) (Kd.V_far (p := ⟨gb295, 1, none⟩) (Kd.V_far (p := ⟨gb295, 0, none⟩) (Kd.V_mono HO293.out (fun k_ hk => (⟨hk, hk.2⟩ : _ ∧ k_ ≠ gb295))) (fun _ hk => hk.2) (.slice Ao25 t285.length co25)) (fun _ hk => hk.2) (.slice Ao29 t288.length co29)) (fun _ hk => hk.2) (.slice Ao30 t291.length co30)) (fun _ hk => ⟨hk.1.1.1, ⟨hk.1.1.2, hk.1.2⟩⟩)⟩
              have n6_ : Aside0 ((((w24.setCell ⟨gb295, 0, none⟩ (.slice Ao25 t285.length co25)).setCell ⟨gb295, 1, none⟩ (.slice Ao29 t288.length co29)).setCell ⟨gb295, 2, none⟩ (.slice Ao30 t291.length co30)).heap[gb271]? = some (.cells #[.slice A0_0 l0_0.length c0_0, .slice A0_1 l0_1.length c0_1, .int .i64 a0_2, .int .i64 a0_3, .int .i64 a0_4] 25 (0, 0))) := ⟨by (with_reducible repeat (first | refine blk_drewN ?_ _ | refine blk_drew ?_ | refine blk_alloc ?_ _)); refine blk_far ?_ NB271_295.out _; (with_reducible repeat (first | refine blk_drewN ?_ _ | refine blk_drew ?_ | refine blk_alloc ?_ _)); refine blk_far ?_ NB271_295.out _; (with_reducible repeat (first | refine blk_drewN ?_ _ | refine blk_drew ?_ | refine blk_alloc ?_ _)); refine blk_far ?_ NB271_295.out _; (with_reducible repeat (first | refine blk_drewN ?_ _ | refine blk_drew ?_ | refine blk_alloc ?_ _)); exact BK271.out⟩
              have n7_ : Aside0 ((((w24.setCell ⟨gb295, 0, none⟩ (.slice Ao25 t285.length co25)).setCell ⟨gb295, 1, none⟩ (.slice Ao29 t288.length co29)).setCell ⟨gb295, 2, none⟩ (.slice Ao30 t291.length co30)).heap[gb284]? = some (.cells #[.slice Ao17 t274.length co17, .slice Ao20 t277.length co20, .slice Ao21 t280.length co21] 31 (0, 0))) := ⟨by (with_reducible repeat (first | refine blk_drewN ?_ _ | refine blk_drew ?_ | refine blk_alloc ?_ _)); refine blk_far ?_ NB284_295.out _; (with_reducible repeat (first | refine blk_drewN ?_ _ | refine blk_drew ?_ | refine blk_alloc ?_ _)); refine blk_far ?_ NB284_295.out _; (with_reducible repeat (first | refine blk_drewN ?_ _ | refine blk_drew ?_ | refine blk_alloc ?_ _)); refine blk_far ?_ NB284_295.out _; (with_reducible repeat (first | refine blk_drewN ?_ _ | refine blk_drew ?_ | refine blk_alloc ?_ _)); exact BK284.out⟩
              have n8_ : Aside0 ((((w24.setCell ⟨gb295, 0, none⟩ (.slice Ao25 t285.length co25)).setCell ⟨gb295, 1, none⟩ (.slice Ao29 t288.length co29)).setCell ⟨gb295, 2, none⟩ (.slice Ao30 t291.length co30)).heap[gb295]? = some (.cells #[.slice Ao25 t285.length co25, .slice Ao29 t288.length co29, .slice Ao30 t291.length co30] 31 (0, 0))) := ⟨by (with_reducible repeat (first | refine blk_drewN ?_ _ | refine blk_drew ?_ | refine blk_alloc ?_ _)); refine blk_put (cs := #[.slice Ao25 t285.length co25, .slice Ao29 t288.length co29, .slice none 0 0]) ?_ 2 _ rfl; (with_reducible repeat (first | refine blk_drewN ?_ _ | refine blk_drew ?_ | refine blk_alloc ?_ _)); refine blk_put (cs := #[.slice Ao25 t285.length co25, .slice none 0 0, .slice none 0 0]) ?_ 1 _ rfl; (with_reducible repeat (first | refine blk_drewN ?_ _ | refine blk_drew ?_ | refine blk_alloc ?_ _)); refine blk_put (cs := #[.slice none 0 0, .slice none 0 0, .slice none 0 0]) ?_ 0 _ rfl; (with_reducible repeat (first | refine blk_drewN ?_ _ | refine blk_drew ?_ | refine blk_alloc ?_ _)); exact BK295.out⟩
              have n9_ : Aside0 (Below w.heap.size w (((w24.setCell ⟨gb295, 0, none⟩ (.slice Ao25 t285.length co25)).setCell ⟨gb295, 1, none⟩ (.slice Ao29 t288.length co29)).setCell ⟨gb295, 2, none⟩ (.slice Ao30 t291.length co30))) := ⟨by repeat (first | (with_reducible first | exact HB.out | apply below_alloc | apply pw_below_drewN | apply below_drew1 | refine below_set ?_ GE271.out | refine below_set ?_ GE284.out | refine below_set ?_ GE295.out) | exact HB.out)⟩
              (try clear HO276)
              (try clear HO279)
              (try clear HO282)
              (try clear HO287)
              (try clear HO290)
              (try clear HO293)
              (try clear BK271)
              (try clear BK284)
              (try clear BK295)
              (try clear HB)
              generalize (((w24.setCell ⟨gb295, 0, none⟩ (.slice Ao25 t285.length co25)).setCell ⟨gb295, 1, none⟩ (.slice Ao29 t288.length co29)).setCell ⟨gb295, 2, none⟩ (.slice Ao30 t291.length co30)) = w42 at n0_ n1_ n2_ n3_ n4_ n5_ n6_ n7_ n8_ n9_ ⊢
              have HO276 := n0_
              have HO279 := n1_
              have HO282 := n2_
              have HO287 := n3_
              have HO290 := n4_
              have HO293 := n5_
              have BK271 := n6_
              have BK284 := n7_
              have BK295 := n8_
              have HB := n9_
              clear n0_ n1_ n2_ n3_ n4_ n5_ n6_ n7_ n8_ n9_
              have n0_ := Aside0.mk (Kd.V_drew HO276.out)
              have n1_ := Aside0.mk (Kd.V_drew HO279.out)
              have n2_ := Aside0.mk (Kd.V_drew HO282.out)
              have n3_ := Aside0.mk (Kd.V_drew HO287.out)
              have n4_ := Aside0.mk (Kd.V_drew HO290.out)
              have n5_ := Aside0.mk (Kd.V_drew HO293.out)
              have n6_ := Aside0.mk (blk_drew BK271.out)
              have n7_ := Aside0.mk (blk_drew BK284.out)
              have n8_ := Aside0.mk (blk_drew BK295.out)
              have n9_ := Aside0.mk (below_drew1 HB.out)
              clear HO276
              clear HO279
              clear HO282
              clear HO287
              clear HO290
              clear HO293
              clear BK271
              clear BK284
              clear BK295
              clear HB
              have HO276 := n0_
              have HO279 := n1_
              have HO282 := n2_
              have HO287 := n3_
              have HO290 := n4_
              have HO293 := n5_
              have BK271 := n6_
              have BK284 := n7_
              have BK295 := n8_
              have HB := n9_
              clear n0_ n1_ n2_ n3_ n4_ n5_ n6_ n7_ n8_ n9_
              refine start_ (n := 23) (S := fun w' => w'.cell? ⟨gb271, 0, none⟩ = some (.slice A0_0 l0_0.length c0_0) ∧ w'.cell? ⟨gb271, 1, none⟩ = some (.slice A0_1 l0_1.length c0_1) ∧ w'.cell? ⟨gb271, 2, none⟩ = some (.int .i64 a0_2) ∧ w'.cell? ⟨gb271, 3, none⟩ = some (.int .i64 a0_3) ∧ w'.cell? ⟨gb271, 4, none⟩ = some (.int .i64 a0_4)) (ds := []) #[false, false, false, false, false, false, false, false, false, false, false, false, false, false, false, false, false, false, false, false, false, false, false] (by kernel_rfl) rfl rfl ⟨(blk_cell BK271.out 0).trans rfl, (blk_cell BK271.out 1).trans rfl, (blk_cell BK271.out 2).trans rfl, (blk_cell BK271.out 3).trans rfl, (blk_cell BK271.out 4).trans rfl⟩ (fun hHeld => ?_); refine with_tabW crossroadslaw17_ClassCounts.tab7 crossroadslaw17_ClassCounts.bits7 (fun HT_ HW_ => ?_)
              generalize w42.drew = w43 at HO276 HO279 HO282 HO287 HO290 HO293 BK271 BK284 BK295 HB hHeld ⊢
              refine take_ (i := 0) (N := some 29) (v := ?_) (a' := ?_) #[true, false, false, false, false, false, false, false, false, false, false, false, false, false, false, false, false, false, false, false, false, false, false] rfl rfl (take_ofW HT_.out HW_.out (by kernel_rfl)) (fun _ _ _ h => h) (Or.inl ⟨by rfl, ?_⟩) hHeld ?_ ?_
              rotate_left
              · rintro w' ⟨s0, s1, s2, s3, s4⟩
                go_simp
                with_reducible rfl
              rotate_left
              · simp only [Act.put, List.setIfInBounds_toArray, List.set_cons_zero, List.set_cons_succ, i64_w, i32_w]
                rfl
              refine take_ (i := 2) (N := some 31) (v := ?_) (a' := ?_) #[true, false, true, false, false, false, false, false, false, false, false, false, false, false, false, false, false, false, false, false, false, false, false] rfl rfl (take_ofW HT_.out HW_.out (by kernel_rfl)) (fun _ _ _ h => h) (Or.inl ⟨by rfl, ?_⟩) hHeld ?_ ?_
              rotate_left
              · rintro w' ⟨s0, s1, s2, s3, s4⟩
                go_simp
                with_reducible rfl
              rotate_left
              · simp only [Act.put, List.setIfInBounds_toArray, List.set_cons_zero, List.set_cons_succ, i64_w, i32_w]
                rfl
              refine one_ (i := 1) (N := some 30) #[true, true, true, false, false, false, false, false, false, false, false, false, false, false, false, false, false, false, false, false, false, false, false] rfl rfl (one_of HT_.out (by kernel_rfl)) (by decide) (fun K hK => ?_)
              refine goes_ Try.func13 (by kernel_rfl) rfl #[.agg #[.slice A0_0 l0_0.length c0_0, .slice A0_1 l0_1.length c0_1, .int .i64 a0_2, .int .i64 a0_3, .int .i64 a0_4]] (by rfl) rfl rfl (by (try simp only [List.map_toArray, List.map_cons, List.map_nil]); first | done | rfl | (simp only [List.length_drop, List.length_take]; rfl)) ?_
              with_reducible refine (class_May.calls _ _ l0_0 _ _ l0_1 a0_2 a0_3 a0_4 t296 _ ?side1 ?side2 ?side3 ?side4 A31.out).mono ?_
              (case side1 => repeat (first | exact (Kd.C_below HR0_0.out HB.out) | (with_reducible refine Kd.C_alloc ?_ _) | (with_reducible refine Kd.C_drewN ?_ _) | (with_reducible refine Kd.C_drew ?_)))
              (case side2 => exact HC0_0.out)
              (case side3 => repeat (first | exact (Kd.C_below HR0_1.out HB.out) | (with_reducible refine Kd.C_alloc ?_ _) | (with_reducible refine Kd.C_drewN ?_ _) | (with_reducible refine Kd.C_drew ?_)))
              (case side4 => exact HC0_1.out)
              rintro e w44 ⟨rfl, hb⟩
              refine ⟨_, rfl, ?_⟩
              have n0_ := Aside0.mk (Kd.V_below (by (with_reducible repeat (first | apply Kd.V_alloc | apply Kd.V_drewN | apply Kd.V_drew)); exact HO276.out) hb)
              have n1_ := Aside0.mk (Kd.V_below (by (with_reducible repeat (first | apply Kd.V_alloc | apply Kd.V_drewN | apply Kd.V_drew)); exact HO279.out) hb)
              have n2_ := Aside0.mk (Kd.V_below (by (with_reducible repeat (first | apply Kd.V_alloc | apply Kd.V_drewN | apply Kd.V_drew)); exact HO282.out) hb)
              have n3_ := Aside0.mk (Kd.V_below (by (with_reducible repeat (first | apply Kd.V_alloc | apply Kd.V_drewN | apply Kd.V_drew)); exact HO287.out) hb)
              have n4_ := Aside0.mk (Kd.V_below (by (with_reducible repeat (first | apply Kd.V_alloc | apply Kd.V_drewN | apply Kd.V_drew)); exact HO290.out) hb)
              have n5_ := Aside0.mk (Kd.V_below (by (with_reducible repeat (first | apply Kd.V_alloc | apply Kd.V_drewN | apply Kd.V_drew)); exact HO293.out) hb)
              have n6_ := Aside0.mk (blk_below (g := gb271) (o := .cells #[.slice A0_0 l0_0.length c0_0, .slice A0_1 l0_1.length c0_1, .int .i64 a0_2, .int .i64 a0_3, .int .i64 a0_4] 25 (0, 0)) (by (with_reducible repeat (first | refine blk_drewN ?_ _ | refine blk_drew ?_ | refine blk_alloc ?_ _)); exact BK271.out) hb)
              have n7_ := Aside0.mk (blk_below (g := gb284) (o := .cells #[.slice Ao17 t274.length co17, .slice Ao20 t277.length co20, .slice Ao21 t280.length co21] 31 (0, 0)) (by (with_reducible repeat (first | refine blk_drewN ?_ _ | refine blk_drew ?_ | refine blk_alloc ?_ _)); exact BK284.out) hb)
              have n8_ := Aside0.mk (blk_below (g := gb295) (o := .cells #[.slice Ao25 t285.length co25, .slice Ao29 t288.length co29, .slice Ao30 t291.length co30] 31 (0, 0)) (by (with_reducible repeat (first | refine blk_drewN ?_ _ | refine blk_drew ?_ | refine blk_alloc ?_ _)); exact BK295.out) hb)
              have n9_ := Aside0.mk (below_step (by repeat (first | (with_reducible first | exact HB.out | apply below_alloc | apply pw_below_drewN | apply below_drew1 | refine below_set ?_ GE271.out | refine below_set ?_ GE284.out | refine below_set ?_ GE295.out) | exact HB.out)) hb)
              clear HO276
              clear HO279
              clear HO282
              clear HO287
              clear HO290
              clear HO293
              clear BK271
              clear BK284
              clear BK295
              clear HB
              have HO276 := n0_
              have HO279 := n1_
              have HO282 := n2_
              have HO287 := n3_
              have HO290 := n4_
              have HO293 := n5_
              have BK271 := n6_
              have BK284 := n7_
              have BK295 := n8_
              have HB := n9_
              clear n0_ n1_ n2_ n3_ n4_ n5_ n6_ n7_ n8_ n9_
              (try clear hb)
              (try clear hb2)
              (try clear hk)
              (try clear hi)
              refine hK.out _ _ ⟨(blk_cell BK271.out 0).trans rfl, (blk_cell BK271.out 1).trans rfl, (blk_cell BK271.out 2).trans rfl, (blk_cell BK271.out 3).trans rfl, (blk_cell BK271.out 4).trans rfl⟩ (fun hHeld => ?_)
              clear hK K
              refine norm_ (a' := ?_) ?_ ?_
              rotate_left
              · show Act.put _ (some 30) _ = _
                simp only [Act.put, List.setIfInBounds_toArray, List.set_cons_zero, List.set_cons_succ, i64_w, i32_w]
                rfl
              refine one_ (i := 3) (N := some 32) #[true, true, true, true, false, false, false, false, false, false, false, false, false, false, false, false, false, false, false, false, false, false, false] rfl rfl (one_of HT_.out (by kernel_rfl)) (by decide) (fun K hK => ?_)
              refine goes_ Try.func14 (by kernel_rfl) rfl #[.agg #[.slice A0_0 l0_0.length c0_0, .slice A0_1 l0_1.length c0_1, .int .i64 a0_2, .int .i64 a0_3, .int .i64 a0_4]] (by rfl) rfl rfl (by (try simp only [List.map_toArray, List.map_cons, List.map_nil]); first | done | rfl | (simp only [List.length_drop, List.length_take]; rfl)) ?_
              with_reducible refine (crossroadsref17_May.calls _ _ l0_0 _ _ l0_1 a0_2 a0_3 a0_4 t297 _ ?side1 ?side2 ?side3 ?side4 A32.out).mono ?_
              (case side1 => repeat (first | exact (Kd.C_below HR0_0.out HB.out) | (with_reducible refine Kd.C_alloc ?_ _) | (with_reducible refine Kd.C_drewN ?_ _) | (with_reducible refine Kd.C_drew ?_)))
              (case side2 => exact HC0_0.out)
              (case side3 => repeat (first | exact (Kd.C_below HR0_1.out HB.out) | (with_reducible refine Kd.C_alloc ?_ _) | (with_reducible refine Kd.C_drewN ?_ _) | (with_reducible refine Kd.C_drew ?_)))
              (case side4 => exact HC0_1.out)
              rintro e w45 ⟨rfl, hb⟩
              refine ⟨_, rfl, ?_⟩
              have n0_ := Aside0.mk (Kd.V_below (by (with_reducible repeat (first | apply Kd.V_alloc | apply Kd.V_drewN | apply Kd.V_drew)); exact HO276.out) hb)
              have n1_ := Aside0.mk (Kd.V_below (by (with_reducible repeat (first | apply Kd.V_alloc | apply Kd.V_drewN | apply Kd.V_drew)); exact HO279.out) hb)
              have n2_ := Aside0.mk (Kd.V_below (by (with_reducible repeat (first | apply Kd.V_alloc | apply Kd.V_drewN | apply Kd.V_drew)); exact HO282.out) hb)
              have n3_ := Aside0.mk (Kd.V_below (by (with_reducible repeat (first | apply Kd.V_alloc | apply Kd.V_drewN | apply Kd.V_drew)); exact HO287.out) hb)
              have n4_ := Aside0.mk (Kd.V_below (by (with_reducible repeat (first | apply Kd.V_alloc | apply Kd.V_drewN | apply Kd.V_drew)); exact HO290.out) hb)
              have n5_ := Aside0.mk (Kd.V_below (by (with_reducible repeat (first | apply Kd.V_alloc | apply Kd.V_drewN | apply Kd.V_drew)); exact HO293.out) hb)
              have n6_ := Aside0.mk (blk_below (g := gb271) (o := .cells #[.slice A0_0 l0_0.length c0_0, .slice A0_1 l0_1.length c0_1, .int .i64 a0_2, .int .i64 a0_3, .int .i64 a0_4] 25 (0, 0)) (by (with_reducible repeat (first | refine blk_drewN ?_ _ | refine blk_drew ?_ | refine blk_alloc ?_ _)); exact BK271.out) hb)
              have n7_ := Aside0.mk (blk_below (g := gb284) (o := .cells #[.slice Ao17 t274.length co17, .slice Ao20 t277.length co20, .slice Ao21 t280.length co21] 31 (0, 0)) (by (with_reducible repeat (first | refine blk_drewN ?_ _ | refine blk_drew ?_ | refine blk_alloc ?_ _)); exact BK284.out) hb)
              have n8_ := Aside0.mk (blk_below (g := gb295) (o := .cells #[.slice Ao25 t285.length co25, .slice Ao29 t288.length co29, .slice Ao30 t291.length co30] 31 (0, 0)) (by (with_reducible repeat (first | refine blk_drewN ?_ _ | refine blk_drew ?_ | refine blk_alloc ?_ _)); exact BK295.out) hb)
              have n9_ := Aside0.mk (below_step (by repeat (first | (with_reducible first | exact HB.out | apply below_alloc | apply pw_below_drewN | apply below_drew1 | refine below_set ?_ GE271.out | refine below_set ?_ GE284.out | refine below_set ?_ GE295.out) | exact HB.out)) hb)
              clear HO276
              clear HO279
              clear HO282
              clear HO287
              clear HO290
              clear HO293
              clear BK271
              clear BK284
              clear BK295
              clear HB
              have HO276 := n0_
              have HO279 := n1_
              have HO282 := n2_
              have HO287 := n3_
              have HO290 := n4_
              have HO293 := n5_
              have BK271 := n6_
              have BK284 := n7_
              have BK295 := n8_
              have HB := n9_
              clear n0_ n1_ n2_ n3_ n4_ n5_ n6_ n7_ n8_ n9_
              (try clear hb)
              (try clear hb2)
              (try clear hk)
              (try clear hi)
              refine hK.out _ _ ⟨(blk_cell BK271.out 0).trans rfl, (blk_cell BK271.out 1).trans rfl, (blk_cell BK271.out 2).trans rfl, (blk_cell BK271.out 3).trans rfl, (blk_cell BK271.out 4).trans rfl⟩ (fun hHeld => ?_)
              clear hK K
              refine norm_ (a' := ?_) ?_ ?_
              rotate_left
              · show Act.put _ (some 32) _ = _
                simp only [Act.put, List.setIfInBounds_toArray, List.set_cons_zero, List.set_cons_succ, i64_w, i32_w]
                rfl
              refine pure_ (i := 4) (N := some 33) (v := ?_) (a' := ?_) #[true, true, true, true, true, false, false, false, false, false, false, false, false, false, false, false, false, false, false, false, false, false, false] rfl rfl (any_of HT_.out (by kernel_rfl)) (fun _ _ _ h => h) (Or.inl ⟨by rfl, ?_⟩) ?_ ?_
              rotate_left
              · intro w'
                go_simp
                with_reducible rfl
              rotate_left
              · simp only [Act.put, List.setIfInBounds_toArray, List.set_cons_zero, List.set_cons_succ, i64_w, i32_w]
                rfl
              refine pure_ (i := 5) (N := some 34) (v := ?_) (a' := ?_) #[true, true, true, true, true, true, false, false, false, false, false, false, false, false, false, false, false, false, false, false, false, false, false] rfl rfl (any_of HT_.out (by kernel_rfl)) (fun _ _ _ h => h) (Or.inl ⟨by rfl, ?_⟩) ?_ ?_
              rotate_left
              · intro w'
                go_simp
                with_reducible rfl
              rotate_left
              · simp only [Act.put, List.setIfInBounds_toArray, List.set_cons_zero, List.set_cons_succ, i64_w, i32_w]
                rfl
              refine take_ (i := 6) (N := some 35) (v := ?_) (a' := ?_) #[true, true, true, true, true, true, true, false, false, false, false, false, false, false, false, false, false, false, false, false, false, false, false] rfl rfl (take_ofW HT_.out HW_.out (by kernel_rfl)) (fun _ _ _ h => h) (Or.inl ⟨by rfl, ?_⟩) hHeld ?_ ?_
              rotate_left
              · rintro w' ⟨s0, s1, s2, s3, s4⟩
                go_simp
                with_reducible rfl
              rotate_left
              · simp only [Act.put, List.setIfInBounds_toArray, List.set_cons_zero, List.set_cons_succ, i64_w, i32_w]
                rfl
              refine take_ (i := 8) (N := some 37) (v := ?_) (a' := ?_) #[true, true, true, true, true, true, true, false, true, false, false, false, false, false, false, false, false, false, false, false, false, false, false] rfl rfl (take_ofW HT_.out HW_.out (by kernel_rfl)) (fun _ _ _ h => h) (Or.inl ⟨by rfl, ?_⟩) hHeld ?_ ?_
              rotate_left
              · rintro w' ⟨s0, s1, s2, s3, s4⟩
                go_simp
                with_reducible rfl
              rotate_left
              · simp only [Act.put, List.setIfInBounds_toArray, List.set_cons_zero, List.set_cons_succ, i64_w, i32_w]
                rfl
              refine one_ (i := 7) (N := some 36) #[true, true, true, true, true, true, true, true, true, false, false, false, false, false, false, false, false, false, false, false, false, false, false] rfl rfl (one_of HT_.out (by kernel_rfl)) (by decide) (fun K hK => ?_)
              refine goes_ Try.func15 (by kernel_rfl) rfl #[.agg #[.slice A0_0 l0_0.length c0_0, .slice A0_1 l0_1.length c0_1, .int .i64 a0_2, .int .i64 a0_3, .int .i64 a0_4]] (by rfl) rfl rfl (by (try simp only [List.map_toArray, List.map_cons, List.map_nil]); first | done | rfl | (simp only [List.length_drop, List.length_take]; rfl)) ?_
              with_reducible refine (class_Count.calls k _ _ l0_0 _ _ l0_1 a0_2 a0_3 a0_4 t298 _ ?side1 ?side2 ?side3 ?side4 A38.out).mono ?_
              (case side1 => repeat (first | exact (Kd.C_below HR0_0.out HB.out) | (with_reducible refine Kd.C_alloc ?_ _) | (with_reducible refine Kd.C_drewN ?_ _) | (with_reducible refine Kd.C_drew ?_)))
              (case side2 => exact HC0_0.out)
              (case side3 => repeat (first | exact (Kd.C_below HR0_1.out HB.out) | (with_reducible refine Kd.C_alloc ?_ _) | (with_reducible refine Kd.C_drewN ?_ _) | (with_reducible refine Kd.C_drew ?_)))
              (case side4 => exact HC0_1.out)
              rintro e w46 ⟨rfl, hb⟩
              refine ⟨_, rfl, ?_⟩
              have n0_ := Aside0.mk (Kd.V_below (by (with_reducible repeat (first | apply Kd.V_alloc | apply Kd.V_drewN | apply Kd.V_drew)); exact HO276.out) hb)
              have n1_ := Aside0.mk (Kd.V_below (by (with_reducible repeat (first | apply Kd.V_alloc | apply Kd.V_drewN | apply Kd.V_drew)); exact HO279.out) hb)
              have n2_ := Aside0.mk (Kd.V_below (by (with_reducible repeat (first | apply Kd.V_alloc | apply Kd.V_drewN | apply Kd.V_drew)); exact HO282.out) hb)
              have n3_ := Aside0.mk (Kd.V_below (by (with_reducible repeat (first | apply Kd.V_alloc | apply Kd.V_drewN | apply Kd.V_drew)); exact HO287.out) hb)
              have n4_ := Aside0.mk (Kd.V_below (by (with_reducible repeat (first | apply Kd.V_alloc | apply Kd.V_drewN | apply Kd.V_drew)); exact HO290.out) hb)
              have n5_ := Aside0.mk (Kd.V_below (by (with_reducible repeat (first | apply Kd.V_alloc | apply Kd.V_drewN | apply Kd.V_drew)); exact HO293.out) hb)
              have n6_ := Aside0.mk (blk_below (g := gb271) (o := .cells #[.slice A0_0 l0_0.length c0_0, .slice A0_1 l0_1.length c0_1, .int .i64 a0_2, .int .i64 a0_3, .int .i64 a0_4] 25 (0, 0)) (by (with_reducible repeat (first | refine blk_drewN ?_ _ | refine blk_drew ?_ | refine blk_alloc ?_ _)); exact BK271.out) hb)
              have n7_ := Aside0.mk (blk_below (g := gb284) (o := .cells #[.slice Ao17 t274.length co17, .slice Ao20 t277.length co20, .slice Ao21 t280.length co21] 31 (0, 0)) (by (with_reducible repeat (first | refine blk_drewN ?_ _ | refine blk_drew ?_ | refine blk_alloc ?_ _)); exact BK284.out) hb)
              have n8_ := Aside0.mk (blk_below (g := gb295) (o := .cells #[.slice Ao25 t285.length co25, .slice Ao29 t288.length co29, .slice Ao30 t291.length co30] 31 (0, 0)) (by (with_reducible repeat (first | refine blk_drewN ?_ _ | refine blk_drew ?_ | refine blk_alloc ?_ _)); exact BK295.out) hb)
              have n9_ := Aside0.mk (below_step (by repeat (first | (with_reducible first | exact HB.out | apply below_alloc | apply pw_below_drewN | apply below_drew1 | refine below_set ?_ GE271.out | refine below_set ?_ GE284.out | refine below_set ?_ GE295.out) | exact HB.out)) hb)
              clear HO276
              clear HO279
              clear HO282
              clear HO287
              clear HO290
              clear HO293
              clear BK271
              clear BK284
              clear BK295
              clear HB
              have HO276 := n0_
              have HO279 := n1_
              have HO282 := n2_
              have HO287 := n3_
              have HO290 := n4_
              have HO293 := n5_
              have BK271 := n6_
              have BK284 := n7_
              have BK295 := n8_
              have HB := n9_
              clear n0_ n1_ n2_ n3_ n4_ n5_ n6_ n7_ n8_ n9_
              (try clear hb)
              (try clear hb2)
              (try clear hk)
              (try clear hi)
              refine hK.out _ _ ⟨(blk_cell BK271.out 0).trans rfl, (blk_cell BK271.out 1).trans rfl, (blk_cell BK271.out 2).trans rfl, (blk_cell BK271.out 3).trans rfl, (blk_cell BK271.out 4).trans rfl⟩ (fun hHeld => ?_)
              clear hK K
              refine norm_ (a' := ?_) ?_ ?_
              rotate_left
              · show Act.put _ (some 36) _ = _
                simp only [Act.put, List.setIfInBounds_toArray, List.set_cons_zero, List.set_cons_succ, i64_w, i32_w]
                rfl
              refine one_ (i := 9) (N := some 38) #[true, true, true, true, true, true, true, true, true, true, false, false, false, false, false, false, false, false, false, false, false, false, false] rfl rfl (one_of HT_.out (by kernel_rfl)) (by decide) (fun K hK => ?_)
              refine goes_ Try.func16 (by kernel_rfl) rfl #[.agg #[.slice A0_0 l0_0.length c0_0, .slice A0_1 l0_1.length c0_1, .int .i64 a0_2, .int .i64 a0_3, .int .i64 a0_4]] (by rfl) rfl rfl (by (try simp only [List.map_toArray, List.map_cons, List.map_nil]); first | done | rfl | (simp only [List.length_drop, List.length_take]; rfl)) ?_
              with_reducible refine (crossroadsref17_Count.calls k _ _ l0_0 _ _ l0_1 a0_2 a0_3 a0_4 t299 _ ?side1 ?side2 ?side3 ?side4 A39.out).mono ?_
              (case side1 => repeat (first | exact (Kd.C_below HR0_0.out HB.out) | (with_reducible refine Kd.C_alloc ?_ _) | (with_reducible refine Kd.C_drewN ?_ _) | (with_reducible refine Kd.C_drew ?_)))
              (case side2 => exact HC0_0.out)
              (case side3 => repeat (first | exact (Kd.C_below HR0_1.out HB.out) | (with_reducible refine Kd.C_alloc ?_ _) | (with_reducible refine Kd.C_drewN ?_ _) | (with_reducible refine Kd.C_drew ?_)))
              (case side4 => exact HC0_1.out)
              rintro e w47 ⟨rfl, hb⟩
              refine ⟨_, rfl, ?_⟩
              have n0_ := Aside0.mk (Kd.V_below (by (with_reducible repeat (first | apply Kd.V_alloc | apply Kd.V_drewN | apply Kd.V_drew)); exact HO276.out) hb)
              have n1_ := Aside0.mk (Kd.V_below (by (with_reducible repeat (first | apply Kd.V_alloc | apply Kd.V_drewN | apply Kd.V_drew)); exact HO279.out) hb)
              have n2_ := Aside0.mk (Kd.V_below (by (with_reducible repeat (first | apply Kd.V_alloc | apply Kd.V_drewN | apply Kd.V_drew)); exact HO282.out) hb)
              have n3_ := Aside0.mk (Kd.V_below (by (with_reducible repeat (first | apply Kd.V_alloc | apply Kd.V_drewN | apply Kd.V_drew)); exact HO287.out) hb)
              have n4_ := Aside0.mk (Kd.V_below (by (with_reducible repeat (first | apply Kd.V_alloc | apply Kd.V_drewN | apply Kd.V_drew)); exact HO290.out) hb)
              have n5_ := Aside0.mk (Kd.V_below (by (with_reducible repeat (first | apply Kd.V_alloc | apply Kd.V_drewN | apply Kd.V_drew)); exact HO293.out) hb)
              have n6_ := Aside0.mk (blk_below (g := gb271) (o := .cells #[.slice A0_0 l0_0.length c0_0, .slice A0_1 l0_1.length c0_1, .int .i64 a0_2, .int .i64 a0_3, .int .i64 a0_4] 25 (0, 0)) (by (with_reducible repeat (first | refine blk_drewN ?_ _ | refine blk_drew ?_ | refine blk_alloc ?_ _)); exact BK271.out) hb)
              have n7_ := Aside0.mk (blk_below (g := gb284) (o := .cells #[.slice Ao17 t274.length co17, .slice Ao20 t277.length co20, .slice Ao21 t280.length co21] 31 (0, 0)) (by (with_reducible repeat (first | refine blk_drewN ?_ _ | refine blk_drew ?_ | refine blk_alloc ?_ _)); exact BK284.out) hb)
              have n8_ := Aside0.mk (blk_below (g := gb295) (o := .cells #[.slice Ao25 t285.length co25, .slice Ao29 t288.length co29, .slice Ao30 t291.length co30] 31 (0, 0)) (by (with_reducible repeat (first | refine blk_drewN ?_ _ | refine blk_drew ?_ | refine blk_alloc ?_ _)); exact BK295.out) hb)
              have n9_ := Aside0.mk (below_step (by repeat (first | (with_reducible first | exact HB.out | apply below_alloc | apply pw_below_drewN | apply below_drew1 | refine below_set ?_ GE271.out | refine below_set ?_ GE284.out | refine below_set ?_ GE295.out) | exact HB.out)) hb)
              clear HO276
              clear HO279
              clear HO282
              clear HO287
              clear HO290
              clear HO293
              clear BK271
              clear BK284
              clear BK295
              clear HB
              have HO276 := n0_
              have HO279 := n1_
              have HO282 := n2_
              have HO287 := n3_
              have HO290 := n4_
              have HO293 := n5_
              have BK271 := n6_
              have BK284 := n7_
              have BK295 := n8_
              have HB := n9_
              clear n0_ n1_ n2_ n3_ n4_ n5_ n6_ n7_ n8_ n9_
              (try clear hb)
              (try clear hb2)
              (try clear hk)
              (try clear hi)
              refine hK.out _ _ ⟨(blk_cell BK271.out 0).trans rfl, (blk_cell BK271.out 1).trans rfl, (blk_cell BK271.out 2).trans rfl, (blk_cell BK271.out 3).trans rfl, (blk_cell BK271.out 4).trans rfl⟩ (fun hHeld => ?_)
              clear hK K
              refine norm_ (a' := ?_) ?_ ?_
              rotate_left
              · show Act.put _ (some 38) _ = _
                simp only [Act.put, List.setIfInBounds_toArray, List.set_cons_zero, List.set_cons_succ, i64_w, i32_w]
                rfl
              refine pure_ (i := 10) (N := some 39) (v := ?_) (a' := ?_) #[true, true, true, true, true, true, true, true, true, true, true, false, false, false, false, false, false, false, false, false, false, false, false] rfl rfl (any_of HT_.out (by kernel_rfl)) (fun _ _ _ h => h) (Or.inl ⟨by rfl, ?_⟩) ?_ ?_
              rotate_left
              · intro w'
                go_simp
                with_reducible rfl
              rotate_left
              · simp only [Act.put, List.setIfInBounds_toArray, List.set_cons_zero, List.set_cons_succ, i64_w, i32_w]
                rfl
              refine pure_ (i := 11) (N := some 40) (v := ?_) (a' := ?_) #[true, true, true, true, true, true, true, true, true, true, true, true, false, false, false, false, false, false, false, false, false, false, false] rfl rfl (any_of HT_.out (by kernel_rfl)) (fun _ _ _ h => h) (Or.inl ⟨by rfl, ?_⟩) ?_ ?_
              rotate_left
              · intro w'
                go_simp
                with_reducible rfl
              rotate_left
              · simp only [Act.put, List.setIfInBounds_toArray, List.set_cons_zero, List.set_cons_succ, i64_w, i32_w]
                rfl
              refine pure_ (i := 12) (N := some 41) (v := ?_) (a' := ?_) #[true, true, true, true, true, true, true, true, true, true, true, true, true, false, false, false, false, false, false, false, false, false, false] rfl rfl (any_of HT_.out (by kernel_rfl)) (fun _ _ _ h => h) (Or.inl ⟨by rfl, ?_⟩) ?_ ?_
              rotate_left
              · intro w'
                go_simp
                with_reducible rfl
              rotate_left
              · simp only [Act.put, List.setIfInBounds_toArray, List.set_cons_zero, List.set_cons_succ, i64_w, i32_w]
                rfl
              refine pure_ (i := 13) (N := some 42) (v := ?_) (a' := ?_) #[true, true, true, true, true, true, true, true, true, true, true, true, true, true, false, false, false, false, false, false, false, false, false] rfl rfl (any_of HT_.out (by kernel_rfl)) (fun _ _ _ h => h) (Or.inl ⟨by rfl, ?_⟩) ?_ ?_
              rotate_left
              · intro w'
                go_simp
                with_reducible rfl
              rotate_left
              · simp only [Act.put, List.setIfInBounds_toArray, List.set_cons_zero, List.set_cons_succ, i64_w, i32_w]
                rfl
              refine pure_ (i := 14) (N := some 43) (v := ?_) (a' := ?_) #[true, true, true, true, true, true, true, true, true, true, true, true, true, true, true, false, false, false, false, false, false, false, false] rfl rfl (any_of HT_.out (by kernel_rfl)) (fun _ _ _ h => h) (Or.inl ⟨by rfl, ?_⟩) ?_ ?_
              rotate_left
              · intro w'
                go_simp
                with_reducible rfl
              rotate_left
              · simp only [Act.put, List.setIfInBounds_toArray, List.set_cons_zero, List.set_cons_succ, i64_w, i32_w]
                rfl
              refine pure_ (i := 15) (N := some 44) (v := ?_) (a' := ?_) #[true, true, true, true, true, true, true, true, true, true, true, true, true, true, true, true, false, false, false, false, false, false, false] rfl rfl (any_of HT_.out (by kernel_rfl)) (fun _ _ _ h => h) (Or.inl ⟨by rfl, ?_⟩) ?_ ?_
              rotate_left
              · intro w'
                go_simp
                with_reducible rfl
              rotate_left
              · simp only [Act.put, List.setIfInBounds_toArray, List.set_cons_zero, List.set_cons_succ, i64_w, i32_w]
                rfl
              refine pure_ (i := 16) (N := some 45) (v := ?_) (a' := ?_) #[true, true, true, true, true, true, true, true, true, true, true, true, true, true, true, true, true, false, false, false, false, false, false] rfl rfl (any_of HT_.out (by kernel_rfl)) (fun _ _ _ h => h) (Or.inl ⟨by rfl, ?_⟩) ?_ ?_
              rotate_left
              · intro w'
                go_simp
                with_reducible rfl
              rotate_left
              · simp only [Act.put, List.setIfInBounds_toArray, List.set_cons_zero, List.set_cons_succ, i64_w, i32_w]
                rfl
              refine pure_ (i := 17) (N := some 46) (v := ?_) (a' := ?_) #[true, true, true, true, true, true, true, true, true, true, true, true, true, true, true, true, true, true, false, false, false, false, false] rfl rfl (any_of HT_.out (by kernel_rfl)) (fun _ _ _ h => h) (Or.inl ⟨by rfl, ?_⟩) ?_ ?_
              rotate_left
              · intro w'
                go_simp
                with_reducible rfl
              rotate_left
              · simp only [Act.put, List.setIfInBounds_toArray, List.set_cons_zero, List.set_cons_succ, i64_w, i32_w]
                rfl
              refine pure_ (i := 18) (N := some 47) (v := undef) (a' := ?_) #[true, true, true, true, true, true, true, true, true, true, true, true, true, true, true, true, true, true, true, false, false, false, false] rfl rfl (any_of HT_.out (by kernel_rfl)) (fun _ _ _ h => h) (Or.inr ⟨by rfl, rfl⟩) ?_ ?_
              rotate_left
              · simp only [Act.put, List.setIfInBounds_toArray, List.set_cons_zero, List.set_cons_succ, i64_w, i32_w]
                rfl
              refine pure_ (i := 19) (N := some 48) (v := undef) (a' := ?_) #[true, true, true, true, true, true, true, true, true, true, true, true, true, true, true, true, true, true, true, true, false, false, false] rfl rfl (any_of HT_.out (by kernel_rfl)) (fun _ _ _ h => h) (Or.inr ⟨by rfl, rfl⟩) ?_ ?_
              rotate_left
              · simp only [Act.put, List.setIfInBounds_toArray, List.set_cons_zero, List.set_cons_succ, i64_w, i32_w]
                rfl
              refine pure_ (i := 20) (N := some 49) (v := undef) (a' := ?_) #[true, true, true, true, true, true, true, true, true, true, true, true, true, true, true, true, true, true, true, true, true, false, false] rfl rfl (any_of HT_.out (by kernel_rfl)) (fun _ _ _ h => h) (Or.inr ⟨by rfl, rfl⟩) ?_ ?_
              rotate_left
              · simp only [Act.put, List.setIfInBounds_toArray, List.set_cons_zero, List.set_cons_succ, i64_w, i32_w]
                rfl
              refine pure_ (i := 21) (N := some 50) (v := undef) (a' := ?_) #[true, true, true, true, true, true, true, true, true, true, true, true, true, true, true, true, true, true, true, true, true, true, false] rfl rfl (any_of HT_.out (by kernel_rfl)) (fun _ _ _ h => h) (Or.inr ⟨by rfl, rfl⟩) ?_ ?_
              rotate_left
              · simp only [Act.put, List.setIfInBounds_toArray, List.set_cons_zero, List.set_cons_succ, i64_w, i32_w]
                rfl
              refine pure_ (i := 22) (N := some 51) (v := ?_) (a' := ?_) #[true, true, true, true, true, true, true, true, true, true, true, true, true, true, true, true, true, true, true, true, true, true, true] rfl rfl (any_of HT_.out (by kernel_rfl)) (fun _ _ _ h => h) (Or.inl ⟨by rfl, ?_⟩) ?_ ?_
              rotate_left
              · intro w'
                go_simp
                with_reducible rfl
              rotate_left
              · simp only [Act.put, List.setIfInBounds_toArray, List.set_cons_zero, List.set_cons_succ, i64_w, i32_w]
                rfl
              refine done_ (done_of HT_.out (by kernel_rfl)) ?_
              try go_wp2
              go_meet
              case rel => exact ⟨_, (true), (by first | rfl | (simp; done) | (simp [*]; done)), H', ⟨by first | omega | exact Nat.le_refl _⟩, ⟨by (with_reducible repeat (first | apply Kd.V_alloc | apply Kd.V_drewN | apply Kd.V_drew)); exact HO276.out⟩, ⟨by (with_reducible repeat (first | apply Kd.V_alloc | apply Kd.V_drewN | apply Kd.V_drew)); exact HO279.out⟩, ⟨by (with_reducible repeat (first | apply Kd.V_alloc | apply Kd.V_drewN | apply Kd.V_drew)); exact HO282.out⟩, ⟨by (with_reducible repeat (first | apply Kd.V_alloc | apply Kd.V_drewN | apply Kd.V_drew)); exact HO287.out⟩, ⟨by (with_reducible repeat (first | apply Kd.V_alloc | apply Kd.V_drewN | apply Kd.V_drew)); exact HO290.out⟩, ⟨by (with_reducible repeat (first | apply Kd.V_alloc | apply Kd.V_drewN | apply Kd.V_drew)); exact HO293.out⟩, ⟨by (with_reducible repeat (first | refine blk_drewN ?_ _ | refine blk_drew ?_ | refine blk_alloc ?_ _)); exact BK271.out⟩, ⟨by (with_reducible repeat (first | refine blk_drewN ?_ _ | refine blk_drew ?_ | refine blk_alloc ?_ _)); exact BK284.out⟩, ⟨by (with_reducible repeat (first | refine blk_drewN ?_ _ | refine blk_drew ?_ | refine blk_alloc ?_ _)); exact BK295.out⟩, ⟨by repeat (first | (with_reducible first | exact HB.out | apply below_alloc | apply pw_below_drewN | apply below_drew1 | refine below_set ?_ GE271.out | refine below_set ?_ GE284.out | refine below_set ?_ GE295.out) | exact HB.out)⟩⟩
            · rw [if_neg c41] at H
              have c41b0 : (t283 != t294) = false := by simpa using c41
              (try (have c41b1 : decide (t283 = t294) = true := by simpa using c41))
              (try (have c41b2 : (t283 == t294) = true := by simpa using c41))
              clear c41
              replace H := Option.bind_eq_some_iff.mp H
              obtain ⟨t300, A480, H⟩ := H
              replace H : (crossroadslaw17_ClassCounts.j0 k t283 (!t300) l0_0 l0_1 a0_2 a0_3 a0_4 t274 t277 t280) = some r := H
              have A48 := Aside0.mk A480
              clear A480
              have H' := Aside0.mk H
              clear H
              try go_wp2
              have n0_ : Aside0 (Kd.V (Kd.slice 5 (Kd.int .u8)) 42 (((w24.setCell ⟨gb295, 0, none⟩ (.slice Ao25 t285.length co25)).setCell ⟨gb295, 1, none⟩ (.slice Ao29 t288.length co29)).setCell ⟨gb295, 2, none⟩ (.slice Ao30 t291.length co30)) w.heap.size (fun k_ => k_ ≠ gb271 ∧ k_ ≠ gb284 ∧ k_ ≠ gb295) (.slice Ao17 t274.length co17) t274) := ⟨by (with_reducible repeat (first | apply Kd.V_alloc | apply Kd.V_drewN | apply Kd.V_drew)); exact Kd.V_mono (Kd.V_far (p := ⟨gb295, 2, none⟩) (Kd.V_far (p := ⟨gb295, 1, none⟩) (Kd.V_far (p := ⟨gb295, 0, none⟩) (Kd.V_mono HO276.out (fun k_ hk => (⟨hk, hk.2⟩ : _ ∧ k_ ≠ gb295))) (fun _ hk => hk.2) (.slice Ao25 t285.length co25)) (fun _ hk => hk.2) (.slice Ao29 t288.length co29)) (fun _ hk => hk.2) (.slice Ao30 t291.length co30)) (fun _ hk => ⟨hk.1.1.1, ⟨hk.1.1.2, hk.1.2⟩⟩)⟩
              have n1_ : Aside0 (Kd.V (Kd.slice 5 (Kd.int .u8)) 42 (((w24.setCell ⟨gb295, 0, none⟩ (.slice Ao25 t285.length co25)).setCell ⟨gb295, 1, none⟩ (.slice Ao29 t288.length co29)).setCell ⟨gb295, 2, none⟩ (.slice Ao30 t291.length co30)) w.heap.size (fun k_ => k_ ≠ gb271 ∧ k_ ≠ gb284 ∧ k_ ≠ gb295) (.slice Ao20 t277.length co20) t277) := ⟨by (with_reducible repeat (first | apply Kd.V_alloc | apply Kd.V_drewN | apply Kd.V_drew)); exact Kd.V_mono (Kd.V_far (p := ⟨gb295, 2, none⟩) (Kd.V_far (p := ⟨gb295, 1, none⟩) (Kd.V_far (p := ⟨gb295, 0, none⟩) (Kd.V_mono HO279.out (fun k_ hk => (⟨hk, hk.2⟩ : _ ∧ k_ ≠ gb295))) (fun _ hk => hk.2) (.slice Ao25 t285.length co25)) (fun _ hk => hk.2) (.slice Ao29 t288.length co29)) (fun _ hk => hk.2) (.slice Ao30 t291.length co30)) (fun _ hk => ⟨hk.1.1.1, ⟨hk.1.1.2, hk.1.2⟩⟩)⟩
              have n2_ : Aside0 (Kd.V Kd.bool 4 (((w24.setCell ⟨gb295, 0, none⟩ (.slice Ao25 t285.length co25)).setCell ⟨gb295, 1, none⟩ (.slice Ao29 t288.length co29)).setCell ⟨gb295, 2, none⟩ (.slice Ao30 t291.length co30)) w.heap.size (fun k_ => k_ ≠ gb271 ∧ k_ ≠ gb284 ∧ k_ ≠ gb295) (.slice Ao21 t280.length co21) t280) := ⟨by (with_reducible repeat (first | apply Kd.V_alloc | apply Kd.V_drewN | apply Kd.V_drew)); exact Kd.V_mono (Kd.V_far (p := ⟨gb295, 2, none⟩) (Kd.V_far (p := ⟨gb295, 1, none⟩) (Kd.V_far (p := ⟨gb295, 0, none⟩) (Kd.V_mono HO282.out (fun k_ hk => (⟨hk, hk.2⟩ : _ ∧ k_ ≠ gb295))) (fun _ hk => hk.2) (.slice Ao25 t285.length co25)) (fun _ hk => hk.2) (.slice Ao29 t288.length co29)) (fun _ hk => hk.2) (.slice Ao30 t291.length co30)) (fun _ hk => ⟨hk.1.1.1, ⟨hk.1.1.2, hk.1.2⟩⟩)⟩
              have n3_ : Aside0 (Kd.V (Kd.slice 5 (Kd.int .u8)) 42 (((w24.setCell ⟨gb295, 0, none⟩ (.slice Ao25 t285.length co25)).setCell ⟨gb295, 1, none⟩ (.slice Ao29 t288.length co29)).setCell ⟨gb295, 2, none⟩ (.slice Ao30 t291.length co30)) w.heap.size (fun k_ => k_ ≠ gb271 ∧ k_ ≠ gb284 ∧ k_ ≠ gb295) (.slice Ao25 t285.length co25) t285) := ⟨by (with_reducible repeat (first | apply Kd.V_alloc | apply Kd.V_drewN | apply Kd.V_drew)); exact Kd.V_mono (Kd.V_far (p := ⟨gb295, 2, none⟩) (Kd.V_far (p := ⟨gb295, 1, none⟩) (Kd.V_far (p := ⟨gb295, 0, none⟩) (Kd.V_mono HO287.out (fun k_ hk => (⟨hk, hk.2⟩ : _ ∧ k_ ≠ gb295))) (fun _ hk => hk.2) (.slice Ao25 t285.length co25)) (fun _ hk => hk.2) (.slice Ao29 t288.length co29)) (fun _ hk => hk.2) (.slice Ao30 t291.length co30)) (fun _ hk => ⟨hk.1.1.1, ⟨hk.1.1.2, hk.1.2⟩⟩)⟩
              have n4_ : Aside0 (Kd.V (Kd.slice 5 (Kd.int .u8)) 42 (((w24.setCell ⟨gb295, 0, none⟩ (.slice Ao25 t285.length co25)).setCell ⟨gb295, 1, none⟩ (.slice Ao29 t288.length co29)).setCell ⟨gb295, 2, none⟩ (.slice Ao30 t291.length co30)) w.heap.size (fun k_ => k_ ≠ gb271 ∧ k_ ≠ gb284 ∧ k_ ≠ gb295) (.slice Ao29 t288.length co29) t288) := ⟨by (with_reducible repeat (first | apply Kd.V_alloc | apply Kd.V_drewN | apply Kd.V_drew)); exact Kd.V_mono (Kd.V_far (p := ⟨gb295, 2, none⟩) (Kd.V_far (p := ⟨gb295, 1, none⟩) (Kd.V_far (p := ⟨gb295, 0, none⟩) (Kd.V_mono HO290.out (fun k_ hk => (⟨hk, hk.2⟩ : _ ∧ k_ ≠ gb295))) (fun _ hk => hk.2) (.slice Ao25 t285.length co25)) (fun _ hk => hk.2) (.slice Ao29 t288.length co29)) (fun _ hk => hk.2) (.slice Ao30 t291.length co30)) (fun _ hk => ⟨hk.1.1.1, ⟨hk.1.1.2, hk.1.2⟩⟩)⟩
              have n5_ : Aside0 (Kd.V Kd.bool 4 (((w24.setCell ⟨gb295, 0, none⟩ (.slice Ao25 t285.length co25)).setCell ⟨gb295, 1, none⟩ (.slice Ao29 t288.length co29)).setCell ⟨gb295, 2, none⟩ (.slice Ao30 t291.length co30)) w.heap.size (fun k_ => k_ ≠ gb271 ∧ k_ ≠ gb284 ∧ k_ ≠ gb295) (.slice Ao30 t291.length co30) t291) := ⟨by (with_reducible repeat (first | apply Kd.V_alloc | apply Kd.V_drewN | apply Kd.V_drew)); exact Kd.V_mono (Kd.V_far (p := ⟨gb295, 2, none⟩) (Kd.V_far (p := ⟨gb295, 1, none⟩) (Kd.V_far (p := ⟨gb295, 0, none⟩) (Kd.V_mono HO293.out (fun k_ hk => (⟨hk, hk.2⟩ : _ ∧ k_ ≠ gb295))) (fun _ hk => hk.2) (.slice Ao25 t285.length co25)) (fun _ hk => hk.2) (.slice Ao29 t288.length co29)) (fun _ hk => hk.2) (.slice Ao30 t291.length co30)) (fun _ hk => ⟨hk.1.1.1, ⟨hk.1.1.2, hk.1.2⟩⟩)⟩
              have n6_ : Aside0 ((((w24.setCell ⟨gb295, 0, none⟩ (.slice Ao25 t285.length co25)).setCell ⟨gb295, 1, none⟩ (.slice Ao29 t288.length co29)).setCell ⟨gb295, 2, none⟩ (.slice Ao30 t291.length co30)).heap[gb271]? = some (.cells #[.slice A0_0 l0_0.length c0_0, .slice A0_1 l0_1.length c0_1, .int .i64 a0_2, .int .i64 a0_3, .int .i64 a0_4] 25 (0, 0))) := ⟨by (with_reducible repeat (first | refine blk_drewN ?_ _ | refine blk_drew ?_ | refine blk_alloc ?_ _)); refine blk_far ?_ NB271_295.out _; (with_reducible repeat (first | refine blk_drewN ?_ _ | refine blk_drew ?_ | refine blk_alloc ?_ _)); refine blk_far ?_ NB271_295.out _; (with_reducible repeat (first | refine blk_drewN ?_ _ | refine blk_drew ?_ | refine blk_alloc ?_ _)); refine blk_far ?_ NB271_295.out _; (with_reducible repeat (first | refine blk_drewN ?_ _ | refine blk_drew ?_ | refine blk_alloc ?_ _)); exact BK271.out⟩
              have n7_ : Aside0 ((((w24.setCell ⟨gb295, 0, none⟩ (.slice Ao25 t285.length co25)).setCell ⟨gb295, 1, none⟩ (.slice Ao29 t288.length co29)).setCell ⟨gb295, 2, none⟩ (.slice Ao30 t291.length co30)).heap[gb284]? = some (.cells #[.slice Ao17 t274.length co17, .slice Ao20 t277.length co20, .slice Ao21 t280.length co21] 31 (0, 0))) := ⟨by (with_reducible repeat (first | refine blk_drewN ?_ _ | refine blk_drew ?_ | refine blk_alloc ?_ _)); refine blk_far ?_ NB284_295.out _; (with_reducible repeat (first | refine blk_drewN ?_ _ | refine blk_drew ?_ | refine blk_alloc ?_ _)); refine blk_far ?_ NB284_295.out _; (with_reducible repeat (first | refine blk_drewN ?_ _ | refine blk_drew ?_ | refine blk_alloc ?_ _)); refine blk_far ?_ NB284_295.out _; (with_reducible repeat (first | refine blk_drewN ?_ _ | refine blk_drew ?_ | refine blk_alloc ?_ _)); exact BK284.out⟩
              have n8_ : Aside0 ((((w24.setCell ⟨gb295, 0, none⟩ (.slice Ao25 t285.length co25)).setCell ⟨gb295, 1, none⟩ (.slice Ao29 t288.length co29)).setCell ⟨gb295, 2, none⟩ (.slice Ao30 t291.length co30)).heap[gb295]? = some (.cells #[.slice Ao25 t285.length co25, .slice Ao29 t288.length co29, .slice Ao30 t291.length co30] 31 (0, 0))) := ⟨by (with_reducible repeat (first | refine blk_drewN ?_ _ | refine blk_drew ?_ | refine blk_alloc ?_ _)); refine blk_put (cs := #[.slice Ao25 t285.length co25, .slice Ao29 t288.length co29, .slice none 0 0]) ?_ 2 _ rfl; (with_reducible repeat (first | refine blk_drewN ?_ _ | refine blk_drew ?_ | refine blk_alloc ?_ _)); refine blk_put (cs := #[.slice Ao25 t285.length co25, .slice none 0 0, .slice none 0 0]) ?_ 1 _ rfl; (with_reducible repeat (first | refine blk_drewN ?_ _ | refine blk_drew ?_ | refine blk_alloc ?_ _)); refine blk_put (cs := #[.slice none 0 0, .slice none 0 0, .slice none 0 0]) ?_ 0 _ rfl; (with_reducible repeat (first | refine blk_drewN ?_ _ | refine blk_drew ?_ | refine blk_alloc ?_ _)); exact BK295.out⟩
              have n9_ : Aside0 (Below w.heap.size w (((w24.setCell ⟨gb295, 0, none⟩ (.slice Ao25 t285.length co25)).setCell ⟨gb295, 1, none⟩ (.slice Ao29 t288.length co29)).setCell ⟨gb295, 2, none⟩ (.slice Ao30 t291.length co30))) := ⟨by repeat (first | (with_reducible first | exact HB.out | apply below_alloc | apply pw_below_drewN | apply below_drew1 | refine below_set ?_ GE271.out | refine below_set ?_ GE284.out | refine below_set ?_ GE295.out) | exact HB.out)⟩
              (try clear HO276)
              (try clear HO279)
              (try clear HO282)
              (try clear HO287)
              (try clear HO290)
              (try clear HO293)
              (try clear BK271)
              (try clear BK284)
              (try clear BK295)
              (try clear HB)
              generalize (((w24.setCell ⟨gb295, 0, none⟩ (.slice Ao25 t285.length co25)).setCell ⟨gb295, 1, none⟩ (.slice Ao29 t288.length co29)).setCell ⟨gb295, 2, none⟩ (.slice Ao30 t291.length co30)) = w49 at n0_ n1_ n2_ n3_ n4_ n5_ n6_ n7_ n8_ n9_ ⊢
              have HO276 := n0_
              have HO279 := n1_
              have HO282 := n2_
              have HO287 := n3_
              have HO290 := n4_
              have HO293 := n5_
              have BK271 := n6_
              have BK284 := n7_
              have BK295 := n8_
              have HB := n9_
              clear n0_ n1_ n2_ n3_ n4_ n5_ n6_ n7_ n8_ n9_
              have n0_ := Aside0.mk (Kd.V_drew HO276.out)
              have n1_ := Aside0.mk (Kd.V_drew HO279.out)
              have n2_ := Aside0.mk (Kd.V_drew HO282.out)
              have n3_ := Aside0.mk (Kd.V_drew HO287.out)
              have n4_ := Aside0.mk (Kd.V_drew HO290.out)
              have n5_ := Aside0.mk (Kd.V_drew HO293.out)
              have n6_ := Aside0.mk (blk_drew BK271.out)
              have n7_ := Aside0.mk (blk_drew BK284.out)
              have n8_ := Aside0.mk (blk_drew BK295.out)
              have n9_ := Aside0.mk (below_drew1 HB.out)
              clear HO276
              clear HO279
              clear HO282
              clear HO287
              clear HO290
              clear HO293
              clear BK271
              clear BK284
              clear BK295
              clear HB
              have HO276 := n0_
              have HO279 := n1_
              have HO282 := n2_
              have HO287 := n3_
              have HO290 := n4_
              have HO293 := n5_
              have BK271 := n6_
              have BK284 := n7_
              have BK295 := n8_
              have HB := n9_
              clear n0_ n1_ n2_ n3_ n4_ n5_ n6_ n7_ n8_ n9_
              refine start_ (n := 23) (S := fun w' => w'.cell? ⟨gb271, 0, none⟩ = some (.slice A0_0 l0_0.length c0_0) ∧ w'.cell? ⟨gb271, 1, none⟩ = some (.slice A0_1 l0_1.length c0_1) ∧ w'.cell? ⟨gb271, 2, none⟩ = some (.int .i64 a0_2) ∧ w'.cell? ⟨gb271, 3, none⟩ = some (.int .i64 a0_3) ∧ w'.cell? ⟨gb271, 4, none⟩ = some (.int .i64 a0_4) ∧ w'.cell? ⟨gb284, 0, none⟩ = some (.slice Ao17 t274.length co17) ∧ w'.cell? ⟨gb284, 1, none⟩ = some (.slice Ao20 t277.length co20) ∧ w'.cell? ⟨gb284, 2, none⟩ = some (.slice Ao21 t280.length co21) ∧ w'.cell? ⟨gb295, 0, none⟩ = some (.slice Ao25 t285.length co25) ∧ w'.cell? ⟨gb295, 1, none⟩ = some (.slice Ao29 t288.length co29) ∧ w'.cell? ⟨gb295, 2, none⟩ = some (.slice Ao30 t291.length co30)) (ds := []) #[false, false, false, false, false, false, false, false, false, false, false, false, false, false, false, false, false, false, false, false, false, false, false] (by kernel_rfl) rfl rfl ⟨(blk_cell BK271.out 0).trans rfl, (blk_cell BK271.out 1).trans rfl, (blk_cell BK271.out 2).trans rfl, (blk_cell BK271.out 3).trans rfl, (blk_cell BK271.out 4).trans rfl, (blk_cell BK284.out 0).trans rfl, (blk_cell BK284.out 1).trans rfl, (blk_cell BK284.out 2).trans rfl, (blk_cell BK295.out 0).trans rfl, (blk_cell BK295.out 1).trans rfl, (blk_cell BK295.out 2).trans rfl⟩ (fun hHeld => ?_); refine with_tabW crossroadslaw17_ClassCounts.tab7 crossroadslaw17_ClassCounts.bits7 (fun HT_ HW_ => ?_)
              generalize w49.drew = w50 at HO276 HO279 HO282 HO287 HO290 HO293 BK271 BK284 BK295 HB hHeld ⊢
              refine take_ (i := 0) (N := some 29) (v := ?_) (a' := ?_) #[true, false, false, false, false, false, false, false, false, false, false, false, false, false, false, false, false, false, false, false, false, false, false] rfl rfl (take_ofW HT_.out HW_.out (by kernel_rfl)) (fun _ _ _ h => h) (Or.inl ⟨by rfl, ?_⟩) hHeld ?_ ?_
              rotate_left
              · rintro w' ⟨s0, s1, s2, s3, s4, s5, s6, s7, s8, s9, s10⟩
                go_simp
                with_reducible rfl
              rotate_left
              · simp only [Act.put, List.setIfInBounds_toArray, List.set_cons_zero, List.set_cons_succ, i64_w, i32_w]
                rfl
              refine take_ (i := 2) (N := some 31) (v := ?_) (a' := ?_) #[true, false, true, false, false, false, false, false, false, false, false, false, false, false, false, false, false, false, false, false, false, false, false] rfl rfl (take_ofW HT_.out HW_.out (by kernel_rfl)) (fun _ _ _ h => h) (Or.inl ⟨by rfl, ?_⟩) hHeld ?_ ?_
              rotate_left
              · rintro w' ⟨s0, s1, s2, s3, s4, s5, s6, s7, s8, s9, s10⟩
                go_simp
                with_reducible rfl
              rotate_left
              · simp only [Act.put, List.setIfInBounds_toArray, List.set_cons_zero, List.set_cons_succ, i64_w, i32_w]
                rfl
              refine one_ (i := 1) (N := some 30) #[true, true, true, false, false, false, false, false, false, false, false, false, false, false, false, false, false, false, false, false, false, false, false] rfl rfl (one_of HT_.out (by kernel_rfl)) (by decide) (fun K hK => ?_)
              refine goes_ Try.func13 (by kernel_rfl) rfl #[.agg #[.slice A0_0 l0_0.length c0_0, .slice A0_1 l0_1.length c0_1, .int .i64 a0_2, .int .i64 a0_3, .int .i64 a0_4]] (by rfl) rfl rfl (by (try simp only [List.map_toArray, List.map_cons, List.map_nil]); first | done | rfl | (simp only [List.length_drop, List.length_take]; rfl)) ?_
              with_reducible refine (class_May.calls _ _ l0_0 _ _ l0_1 a0_2 a0_3 a0_4 t296 _ ?side1 ?side2 ?side3 ?side4 A31.out).mono ?_
              (case side1 => repeat (first | exact (Kd.C_below HR0_0.out HB.out) | (with_reducible refine Kd.C_alloc ?_ _) | (with_reducible refine Kd.C_drewN ?_ _) | (with_reducible refine Kd.C_drew ?_)))
              (case side2 => exact HC0_0.out)
              (case side3 => repeat (first | exact (Kd.C_below HR0_1.out HB.out) | (with_reducible refine Kd.C_alloc ?_ _) | (with_reducible refine Kd.C_drewN ?_ _) | (with_reducible refine Kd.C_drew ?_)))
              (case side4 => exact HC0_1.out)
              rintro e w51 ⟨rfl, hb⟩
              refine ⟨_, rfl, ?_⟩
              have n0_ := Aside0.mk (Kd.V_below (by (with_reducible repeat (first | apply Kd.V_alloc | apply Kd.V_drewN | apply Kd.V_drew)); exact HO276.out) hb)
              have n1_ := Aside0.mk (Kd.V_below (by (with_reducible repeat (first | apply Kd.V_alloc | apply Kd.V_drewN | apply Kd.V_drew)); exact HO279.out) hb)
              have n2_ := Aside0.mk (Kd.V_below (by (with_reducible repeat (first | apply Kd.V_alloc | apply Kd.V_drewN | apply Kd.V_drew)); exact HO282.out) hb)
              have n3_ := Aside0.mk (Kd.V_below (by (with_reducible repeat (first | apply Kd.V_alloc | apply Kd.V_drewN | apply Kd.V_drew)); exact HO287.out) hb)
              have n4_ := Aside0.mk (Kd.V_below (by (with_reducible repeat (first | apply Kd.V_alloc | apply Kd.V_drewN | apply Kd.V_drew)); exact HO290.out) hb)
              have n5_ := Aside0.mk (Kd.V_below (by (with_reducible repeat (first | apply Kd.V_alloc | apply Kd.V_drewN | apply Kd.V_drew)); exact HO293.out) hb)
              have n6_ := Aside0.mk (blk_below (g := gb271) (o := .cells #[.slice A0_0 l0_0.length c0_0, .slice A0_1 l0_1.length c0_1, .int .i64 a0_2, .int .i64 a0_3, .int .i64 a0_4] 25 (0, 0)) (by (with_reducible repeat (first | refine blk_drewN ?_ _ | refine blk_drew ?_ | refine blk_alloc ?_ _)); exact BK271.out) hb)
              have n7_ := Aside0.mk (blk_below (g := gb284) (o := .cells #[.slice Ao17 t274.length co17, .slice Ao20 t277.length co20, .slice Ao21 t280.length co21] 31 (0, 0)) (by (with_reducible repeat (first | refine blk_drewN ?_ _ | refine blk_drew ?_ | refine blk_alloc ?_ _)); exact BK284.out) hb)
              have n8_ := Aside0.mk (blk_below (g := gb295) (o := .cells #[.slice Ao25 t285.length co25, .slice Ao29 t288.length co29, .slice Ao30 t291.length co30] 31 (0, 0)) (by (with_reducible repeat (first | refine blk_drewN ?_ _ | refine blk_drew ?_ | refine blk_alloc ?_ _)); exact BK295.out) hb)
              have n9_ := Aside0.mk (below_step (by repeat (first | (with_reducible first | exact HB.out | apply below_alloc | apply pw_below_drewN | apply below_drew1 | refine below_set ?_ GE271.out | refine below_set ?_ GE284.out | refine below_set ?_ GE295.out) | exact HB.out)) hb)
              clear HO276
              clear HO279
              clear HO282
              clear HO287
              clear HO290
              clear HO293
              clear BK271
              clear BK284
              clear BK295
              clear HB
              have HO276 := n0_
              have HO279 := n1_
              have HO282 := n2_
              have HO287 := n3_
              have HO290 := n4_
              have HO293 := n5_
              have BK271 := n6_
              have BK284 := n7_
              have BK295 := n8_
              have HB := n9_
              clear n0_ n1_ n2_ n3_ n4_ n5_ n6_ n7_ n8_ n9_
              (try clear hb)
              (try clear hb2)
              (try clear hk)
              (try clear hi)
              refine hK.out _ _ ⟨(blk_cell BK271.out 0).trans rfl, (blk_cell BK271.out 1).trans rfl, (blk_cell BK271.out 2).trans rfl, (blk_cell BK271.out 3).trans rfl, (blk_cell BK271.out 4).trans rfl, (blk_cell BK284.out 0).trans rfl, (blk_cell BK284.out 1).trans rfl, (blk_cell BK284.out 2).trans rfl, (blk_cell BK295.out 0).trans rfl, (blk_cell BK295.out 1).trans rfl, (blk_cell BK295.out 2).trans rfl⟩ (fun hHeld => ?_)
              clear hK K
              refine norm_ (a' := ?_) ?_ ?_
              rotate_left
              · show Act.put _ (some 30) _ = _
                simp only [Act.put, List.setIfInBounds_toArray, List.set_cons_zero, List.set_cons_succ, i64_w, i32_w]
                rfl
              refine one_ (i := 3) (N := some 32) #[true, true, true, true, false, false, false, false, false, false, false, false, false, false, false, false, false, false, false, false, false, false, false] rfl rfl (one_of HT_.out (by kernel_rfl)) (by decide) (fun K hK => ?_)
              refine goes_ Try.func14 (by kernel_rfl) rfl #[.agg #[.slice A0_0 l0_0.length c0_0, .slice A0_1 l0_1.length c0_1, .int .i64 a0_2, .int .i64 a0_3, .int .i64 a0_4]] (by rfl) rfl rfl (by (try simp only [List.map_toArray, List.map_cons, List.map_nil]); first | done | rfl | (simp only [List.length_drop, List.length_take]; rfl)) ?_
              with_reducible refine (crossroadsref17_May.calls _ _ l0_0 _ _ l0_1 a0_2 a0_3 a0_4 t297 _ ?side1 ?side2 ?side3 ?side4 A32.out).mono ?_
              (case side1 => repeat (first | exact (Kd.C_below HR0_0.out HB.out) | (with_reducible refine Kd.C_alloc ?_ _) | (with_reducible refine Kd.C_drewN ?_ _) | (with_reducible refine Kd.C_drew ?_)))
              (case side2 => exact HC0_0.out)
              (case side3 => repeat (first | exact (Kd.C_below HR0_1.out HB.out) | (with_reducible refine Kd.C_alloc ?_ _) | (with_reducible refine Kd.C_drewN ?_ _) | (with_reducible refine Kd.C_drew ?_)))
              (case side4 => exact HC0_1.out)
              rintro e w52 ⟨rfl, hb⟩
              refine ⟨_, rfl, ?_⟩
              have n0_ := Aside0.mk (Kd.V_below (by (with_reducible repeat (first | apply Kd.V_alloc | apply Kd.V_drewN | apply Kd.V_drew)); exact HO276.out) hb)
              have n1_ := Aside0.mk (Kd.V_below (by (with_reducible repeat (first | apply Kd.V_alloc | apply Kd.V_drewN | apply Kd.V_drew)); exact HO279.out) hb)
              have n2_ := Aside0.mk (Kd.V_below (by (with_reducible repeat (first | apply Kd.V_alloc | apply Kd.V_drewN | apply Kd.V_drew)); exact HO282.out) hb)
              have n3_ := Aside0.mk (Kd.V_below (by (with_reducible repeat (first | apply Kd.V_alloc | apply Kd.V_drewN | apply Kd.V_drew)); exact HO287.out) hb)
              have n4_ := Aside0.mk (Kd.V_below (by (with_reducible repeat (first | apply Kd.V_alloc | apply Kd.V_drewN | apply Kd.V_drew)); exact HO290.out) hb)
              have n5_ := Aside0.mk (Kd.V_below (by (with_reducible repeat (first | apply Kd.V_alloc | apply Kd.V_drewN | apply Kd.V_drew)); exact HO293.out) hb)
              have n6_ := Aside0.mk (blk_below (g := gb271) (o := .cells #[.slice A0_0 l0_0.length c0_0, .slice A0_1 l0_1.length c0_1, .int .i64 a0_2, .int .i64 a0_3, .int .i64 a0_4] 25 (0, 0)) (by (with_reducible repeat (first | refine blk_drewN ?_ _ | refine blk_drew ?_ | refine blk_alloc ?_ _)); exact BK271.out) hb)
              have n7_ := Aside0.mk (blk_below (g := gb284) (o := .cells #[.slice Ao17 t274.length co17, .slice Ao20 t277.length co20, .slice Ao21 t280.length co21] 31 (0, 0)) (by (with_reducible repeat (first | refine blk_drewN ?_ _ | refine blk_drew ?_ | refine blk_alloc ?_ _)); exact BK284.out) hb)
              have n8_ := Aside0.mk (blk_below (g := gb295) (o := .cells #[.slice Ao25 t285.length co25, .slice Ao29 t288.length co29, .slice Ao30 t291.length co30] 31 (0, 0)) (by (with_reducible repeat (first | refine blk_drewN ?_ _ | refine blk_drew ?_ | refine blk_alloc ?_ _)); exact BK295.out) hb)
              have n9_ := Aside0.mk (below_step (by repeat (first | (with_reducible first | exact HB.out | apply below_alloc | apply pw_below_drewN | apply below_drew1 | refine below_set ?_ GE271.out | refine below_set ?_ GE284.out | refine below_set ?_ GE295.out) | exact HB.out)) hb)
              clear HO276
              clear HO279
              clear HO282
              clear HO287
              clear HO290
              clear HO293
              clear BK271
              clear BK284
              clear BK295
              clear HB
              have HO276 := n0_
              have HO279 := n1_
              have HO282 := n2_
              have HO287 := n3_
              have HO290 := n4_
              have HO293 := n5_
              have BK271 := n6_
              have BK284 := n7_
              have BK295 := n8_
              have HB := n9_
              clear n0_ n1_ n2_ n3_ n4_ n5_ n6_ n7_ n8_ n9_
              (try clear hb)
              (try clear hb2)
              (try clear hk)
              (try clear hi)
              refine hK.out _ _ ⟨(blk_cell BK271.out 0).trans rfl, (blk_cell BK271.out 1).trans rfl, (blk_cell BK271.out 2).trans rfl, (blk_cell BK271.out 3).trans rfl, (blk_cell BK271.out 4).trans rfl, (blk_cell BK284.out 0).trans rfl, (blk_cell BK284.out 1).trans rfl, (blk_cell BK284.out 2).trans rfl, (blk_cell BK295.out 0).trans rfl, (blk_cell BK295.out 1).trans rfl, (blk_cell BK295.out 2).trans rfl⟩ (fun hHeld => ?_)
              clear hK K
              refine norm_ (a' := ?_) ?_ ?_
              rotate_left
              · show Act.put _ (some 32) _ = _
                simp only [Act.put, List.setIfInBounds_toArray, List.set_cons_zero, List.set_cons_succ, i64_w, i32_w]
                rfl
              refine pure_ (i := 4) (N := some 33) (v := ?_) (a' := ?_) #[true, true, true, true, true, false, false, false, false, false, false, false, false, false, false, false, false, false, false, false, false, false, false] rfl rfl (any_of HT_.out (by kernel_rfl)) (fun _ _ _ h => h) (Or.inl ⟨by rfl, ?_⟩) ?_ ?_
              rotate_left
              · intro w'
                go_simp
                with_reducible rfl
              rotate_left
              · simp only [Act.put, List.setIfInBounds_toArray, List.set_cons_zero, List.set_cons_succ, i64_w, i32_w]
                rfl
              refine pure_ (i := 5) (N := some 34) (v := ?_) (a' := ?_) #[true, true, true, true, true, true, false, false, false, false, false, false, false, false, false, false, false, false, false, false, false, false, false] rfl rfl (any_of HT_.out (by kernel_rfl)) (fun _ _ _ h => h) (Or.inl ⟨by rfl, ?_⟩) ?_ ?_
              rotate_left
              · intro w'
                go_simp
                with_reducible rfl
              rotate_left
              · simp only [Act.put, List.setIfInBounds_toArray, List.set_cons_zero, List.set_cons_succ, i64_w, i32_w]
                rfl
              refine take_ (i := 6) (N := some 35) (v := ?_) (a' := ?_) #[true, true, true, true, true, true, true, false, false, false, false, false, false, false, false, false, false, false, false, false, false, false, false] rfl rfl (take_ofW HT_.out HW_.out (by kernel_rfl)) (fun _ _ _ h => h) (Or.inl ⟨by rfl, ?_⟩) hHeld ?_ ?_
              rotate_left
              · rintro w' ⟨s0, s1, s2, s3, s4, s5, s6, s7, s8, s9, s10⟩
                go_simp
                with_reducible rfl
              rotate_left
              · simp only [Act.put, List.setIfInBounds_toArray, List.set_cons_zero, List.set_cons_succ, i64_w, i32_w]
                rfl
              refine take_ (i := 8) (N := some 37) (v := ?_) (a' := ?_) #[true, true, true, true, true, true, true, false, true, false, false, false, false, false, false, false, false, false, false, false, false, false, false] rfl rfl (take_ofW HT_.out HW_.out (by kernel_rfl)) (fun _ _ _ h => h) (Or.inl ⟨by rfl, ?_⟩) hHeld ?_ ?_
              rotate_left
              · rintro w' ⟨s0, s1, s2, s3, s4, s5, s6, s7, s8, s9, s10⟩
                go_simp
                with_reducible rfl
              rotate_left
              · simp only [Act.put, List.setIfInBounds_toArray, List.set_cons_zero, List.set_cons_succ, i64_w, i32_w]
                rfl
              refine one_ (i := 7) (N := some 36) #[true, true, true, true, true, true, true, true, true, false, false, false, false, false, false, false, false, false, false, false, false, false, false] rfl rfl (one_of HT_.out (by kernel_rfl)) (by decide) (fun K hK => ?_)
              refine goes_ Try.func15 (by kernel_rfl) rfl #[.agg #[.slice A0_0 l0_0.length c0_0, .slice A0_1 l0_1.length c0_1, .int .i64 a0_2, .int .i64 a0_3, .int .i64 a0_4]] (by rfl) rfl rfl (by (try simp only [List.map_toArray, List.map_cons, List.map_nil]); first | done | rfl | (simp only [List.length_drop, List.length_take]; rfl)) ?_
              with_reducible refine (class_Count.calls k _ _ l0_0 _ _ l0_1 a0_2 a0_3 a0_4 t298 _ ?side1 ?side2 ?side3 ?side4 A38.out).mono ?_
              (case side1 => repeat (first | exact (Kd.C_below HR0_0.out HB.out) | (with_reducible refine Kd.C_alloc ?_ _) | (with_reducible refine Kd.C_drewN ?_ _) | (with_reducible refine Kd.C_drew ?_)))
              (case side2 => exact HC0_0.out)
              (case side3 => repeat (first | exact (Kd.C_below HR0_1.out HB.out) | (with_reducible refine Kd.C_alloc ?_ _) | (with_reducible refine Kd.C_drewN ?_ _) | (with_reducible refine Kd.C_drew ?_)))
              (case side4 => exact HC0_1.out)
              rintro e w53 ⟨rfl, hb⟩
              refine ⟨_, rfl, ?_⟩
              have n0_ := Aside0.mk (Kd.V_below (by (with_reducible repeat (first | apply Kd.V_alloc | apply Kd.V_drewN | apply Kd.V_drew)); exact HO276.out) hb)
              have n1_ := Aside0.mk (Kd.V_below (by (with_reducible repeat (first | apply Kd.V_alloc | apply Kd.V_drewN | apply Kd.V_drew)); exact HO279.out) hb)
              have n2_ := Aside0.mk (Kd.V_below (by (with_reducible repeat (first | apply Kd.V_alloc | apply Kd.V_drewN | apply Kd.V_drew)); exact HO282.out) hb)
              have n3_ := Aside0.mk (Kd.V_below (by (with_reducible repeat (first | apply Kd.V_alloc | apply Kd.V_drewN | apply Kd.V_drew)); exact HO287.out) hb)
              have n4_ := Aside0.mk (Kd.V_below (by (with_reducible repeat (first | apply Kd.V_alloc | apply Kd.V_drewN | apply Kd.V_drew)); exact HO290.out) hb)
              have n5_ := Aside0.mk (Kd.V_below (by (with_reducible repeat (first | apply Kd.V_alloc | apply Kd.V_drewN | apply Kd.V_drew)); exact HO293.out) hb)
              have n6_ := Aside0.mk (blk_below (g := gb271) (o := .cells #[.slice A0_0 l0_0.length c0_0, .slice A0_1 l0_1.length c0_1, .int .i64 a0_2, .int .i64 a0_3, .int .i64 a0_4] 25 (0, 0)) (by (with_reducible repeat (first | refine blk_drewN ?_ _ | refine blk_drew ?_ | refine blk_alloc ?_ _)); exact BK271.out) hb)
              have n7_ := Aside0.mk (blk_below (g := gb284) (o := .cells #[.slice Ao17 t274.length co17, .slice Ao20 t277.length co20, .slice Ao21 t280.length co21] 31 (0, 0)) (by (with_reducible repeat (first | refine blk_drewN ?_ _ | refine blk_drew ?_ | refine blk_alloc ?_ _)); exact BK284.out) hb)
              have n8_ := Aside0.mk (blk_below (g := gb295) (o := .cells #[.slice Ao25 t285.length co25, .slice Ao29 t288.length co29, .slice Ao30 t291.length co30] 31 (0, 0)) (by (with_reducible repeat (first | refine blk_drewN ?_ _ | refine blk_drew ?_ | refine blk_alloc ?_ _)); exact BK295.out) hb)
              have n9_ := Aside0.mk (below_step (by repeat (first | (with_reducible first | exact HB.out | apply below_alloc | apply pw_below_drewN | apply below_drew1 | refine below_set ?_ GE271.out | refine below_set ?_ GE284.out | refine below_set ?_ GE295.out) | exact HB.out)) hb)
              clear HO276
              clear HO279
              clear HO282
              clear HO287
              clear HO290
              clear HO293
              clear BK271
              clear BK284
              clear BK295
              clear HB
              have HO276 := n0_
              have HO279 := n1_
              have HO282 := n2_
              have HO287 := n3_
              have HO290 := n4_
              have HO293 := n5_
              have BK271 := n6_
              have BK284 := n7_
              have BK295 := n8_
              have HB := n9_
              clear n0_ n1_ n2_ n3_ n4_ n5_ n6_ n7_ n8_ n9_
              (try clear hb)
              (try clear hb2)
              (try clear hk)
              (try clear hi)
              refine hK.out _ _ ⟨(blk_cell BK271.out 0).trans rfl, (blk_cell BK271.out 1).trans rfl, (blk_cell BK271.out 2).trans rfl, (blk_cell BK271.out 3).trans rfl, (blk_cell BK271.out 4).trans rfl, (blk_cell BK284.out 0).trans rfl, (blk_cell BK284.out 1).trans rfl, (blk_cell BK284.out 2).trans rfl, (blk_cell BK295.out 0).trans rfl, (blk_cell BK295.out 1).trans rfl, (blk_cell BK295.out 2).trans rfl⟩ (fun hHeld => ?_)
              clear hK K
              refine norm_ (a' := ?_) ?_ ?_
              rotate_left
              · show Act.put _ (some 36) _ = _
                simp only [Act.put, List.setIfInBounds_toArray, List.set_cons_zero, List.set_cons_succ, i64_w, i32_w]
                rfl
              refine one_ (i := 9) (N := some 38) #[true, true, true, true, true, true, true, true, true, true, false, false, false, false, false, false, false, false, false, false, false, false, false] rfl rfl (one_of HT_.out (by kernel_rfl)) (by decide) (fun K hK => ?_)
              refine goes_ Try.func16 (by kernel_rfl) rfl #[.agg #[.slice A0_0 l0_0.length c0_0, .slice A0_1 l0_1.length c0_1, .int .i64 a0_2, .int .i64 a0_3, .int .i64 a0_4]] (by rfl) rfl rfl (by (try simp only [List.map_toArray, List.map_cons, List.map_nil]); first | done | rfl | (simp only [List.length_drop, List.length_take]; rfl)) ?_
              with_reducible refine (crossroadsref17_Count.calls k _ _ l0_0 _ _ l0_1 a0_2 a0_3 a0_4 t299 _ ?side1 ?side2 ?side3 ?side4 A39.out).mono ?_
              (case side1 => repeat (first | exact (Kd.C_below HR0_0.out HB.out) | (with_reducible refine Kd.C_alloc ?_ _) | (with_reducible refine Kd.C_drewN ?_ _) | (with_reducible refine Kd.C_drew ?_)))
              (case side2 => exact HC0_0.out)
              (case side3 => repeat (first | exact (Kd.C_below HR0_1.out HB.out) | (with_reducible refine Kd.C_alloc ?_ _) | (with_reducible refine Kd.C_drewN ?_ _) | (with_reducible refine Kd.C_drew ?_)))
              (case side4 => exact HC0_1.out)
              rintro e w54 ⟨rfl, hb⟩
              refine ⟨_, rfl, ?_⟩
              have n0_ := Aside0.mk (Kd.V_below (by (with_reducible repeat (first | apply Kd.V_alloc | apply Kd.V_drewN | apply Kd.V_drew)); exact HO276.out) hb)
              have n1_ := Aside0.mk (Kd.V_below (by (with_reducible repeat (first | apply Kd.V_alloc | apply Kd.V_drewN | apply Kd.V_drew)); exact HO279.out) hb)
              have n2_ := Aside0.mk (Kd.V_below (by (with_reducible repeat (first | apply Kd.V_alloc | apply Kd.V_drewN | apply Kd.V_drew)); exact HO282.out) hb)
              have n3_ := Aside0.mk (Kd.V_below (by (with_reducible repeat (first | apply Kd.V_alloc | apply Kd.V_drewN | apply Kd.V_drew)); exact HO287.out) hb)
              have n4_ := Aside0.mk (Kd.V_below (by (with_reducible repeat (first | apply Kd.V_alloc | apply Kd.V_drewN | apply Kd.V_drew)); exact HO290.out) hb)
              have n5_ := Aside0.mk (Kd.V_below (by (with_reducible repeat (first | apply Kd.V_alloc | apply Kd.V_drewN | apply Kd.V_drew)); exact HO293.out) hb)
              have n6_ := Aside0.mk (blk_below (g := gb271) (o := .cells #[.slice A0_0 l0_0.length c0_0, .slice A0_1 l0_1.length c0_1, .int .i64 a0_2, .int .i64 a0_3, .int .i64 a0_4] 25 (0, 0)) (by (with_reducible repeat (first | refine blk_drewN ?_ _ | refine blk_drew ?_ | refine blk_alloc ?_ _)); exact BK271.out) hb)
              have n7_ := Aside0.mk (blk_below (g := gb284) (o := .cells #[.slice Ao17 t274.length co17, .slice Ao20 t277.length co20, .slice Ao21 t280.length co21] 31 (0, 0)) (by (with_reducible repeat (first | refine blk_drewN ?_ _ | refine blk_drew ?_ | refine blk_alloc ?_ _)); exact BK284.out) hb)
              have n8_ := Aside0.mk (blk_below (g := gb295) (o := .cells #[.slice Ao25 t285.length co25, .slice Ao29 t288.length co29, .slice Ao30 t291.length co30] 31 (0, 0)) (by (with_reducible repeat (first | refine blk_drewN ?_ _ | refine blk_drew ?_ | refine blk_alloc ?_ _)); exact BK295.out) hb)
              have n9_ := Aside0.mk (below_step (by repeat (first | (with_reducible first | exact HB.out | apply below_alloc | apply pw_below_drewN | apply below_drew1 | refine below_set ?_ GE271.out | refine below_set ?_ GE284.out | refine below_set ?_ GE295.out) | exact HB.out)) hb)
              clear HO276
              clear HO279
              clear HO282
              clear HO287
              clear HO290
              clear HO293
              clear BK271
              clear BK284
              clear BK295
              clear HB
              have HO276 := n0_
              have HO279 := n1_
              have HO282 := n2_
              have HO287 := n3_
              have HO290 := n4_
              have HO293 := n5_
              have BK271 := n6_
              have BK284 := n7_
              have BK295 := n8_
              have HB := n9_
              clear n0_ n1_ n2_ n3_ n4_ n5_ n6_ n7_ n8_ n9_
              (try clear hb)
              (try clear hb2)
              (try clear hk)
              (try clear hi)
              refine hK.out _ _ ⟨(blk_cell BK271.out 0).trans rfl, (blk_cell BK271.out 1).trans rfl, (blk_cell BK271.out 2).trans rfl, (blk_cell BK271.out 3).trans rfl, (blk_cell BK271.out 4).trans rfl, (blk_cell BK284.out 0).trans rfl, (blk_cell BK284.out 1).trans rfl, (blk_cell BK284.out 2).trans rfl, (blk_cell BK295.out 0).trans rfl, (blk_cell BK295.out 1).trans rfl, (blk_cell BK295.out 2).trans rfl⟩ (fun hHeld => ?_)
              clear hK K
              refine norm_ (a' := ?_) ?_ ?_
              rotate_left
              · show Act.put _ (some 38) _ = _
                simp only [Act.put, List.setIfInBounds_toArray, List.set_cons_zero, List.set_cons_succ, i64_w, i32_w]
                rfl
              refine pure_ (i := 10) (N := some 39) (v := ?_) (a' := ?_) #[true, true, true, true, true, true, true, true, true, true, true, false, false, false, false, false, false, false, false, false, false, false, false] rfl rfl (any_of HT_.out (by kernel_rfl)) (fun _ _ _ h => h) (Or.inl ⟨by rfl, ?_⟩) ?_ ?_
              rotate_left
              · intro w'
                go_simp
                with_reducible rfl
              rotate_left
              · simp only [Act.put, List.setIfInBounds_toArray, List.set_cons_zero, List.set_cons_succ, i64_w, i32_w]
                rfl
              refine pure_ (i := 11) (N := some 40) (v := ?_) (a' := ?_) #[true, true, true, true, true, true, true, true, true, true, true, true, false, false, false, false, false, false, false, false, false, false, false] rfl rfl (any_of HT_.out (by kernel_rfl)) (fun _ _ _ h => h) (Or.inl ⟨by rfl, ?_⟩) ?_ ?_
              rotate_left
              · intro w'
                go_simp
                with_reducible rfl
              rotate_left
              · simp only [Act.put, List.setIfInBounds_toArray, List.set_cons_zero, List.set_cons_succ, i64_w, i32_w]
                rfl
              refine pure_ (i := 12) (N := some 41) (v := ?_) (a' := ?_) #[true, true, true, true, true, true, true, true, true, true, true, true, true, false, false, false, false, false, false, false, false, false, false] rfl rfl (any_of HT_.out (by kernel_rfl)) (fun _ _ _ h => h) (Or.inl ⟨by rfl, ?_⟩) ?_ ?_
              rotate_left
              · intro w'
                go_simp
                with_reducible rfl
              rotate_left
              · simp only [Act.put, List.setIfInBounds_toArray, List.set_cons_zero, List.set_cons_succ, i64_w, i32_w]
                rfl
              refine pure_ (i := 13) (N := some 42) (v := ?_) (a' := ?_) #[true, true, true, true, true, true, true, true, true, true, true, true, true, true, false, false, false, false, false, false, false, false, false] rfl rfl (any_of HT_.out (by kernel_rfl)) (fun _ _ _ h => h) (Or.inl ⟨by rfl, ?_⟩) ?_ ?_
              rotate_left
              · intro w'
                go_simp
                with_reducible rfl
              rotate_left
              · simp only [Act.put, List.setIfInBounds_toArray, List.set_cons_zero, List.set_cons_succ, i64_w, i32_w]
                rfl
              refine pure_ (i := 14) (N := some 43) (v := ?_) (a' := ?_) #[true, true, true, true, true, true, true, true, true, true, true, true, true, true, true, false, false, false, false, false, false, false, false] rfl rfl (any_of HT_.out (by kernel_rfl)) (fun _ _ _ h => h) (Or.inl ⟨by rfl, ?_⟩) ?_ ?_
              rotate_left
              · intro w'
                go_simp
                with_reducible rfl
              rotate_left
              · simp only [Act.put, List.setIfInBounds_toArray, List.set_cons_zero, List.set_cons_succ, i64_w, i32_w]
                rfl
              refine pure_ (i := 15) (N := some 44) (v := ?_) (a' := ?_) #[true, true, true, true, true, true, true, true, true, true, true, true, true, true, true, true, false, false, false, false, false, false, false] rfl rfl (any_of HT_.out (by kernel_rfl)) (fun _ _ _ h => h) (Or.inl ⟨by rfl, ?_⟩) ?_ ?_
              rotate_left
              · intro w'
                go_simp
                with_reducible rfl
              rotate_left
              · simp only [Act.put, List.setIfInBounds_toArray, List.set_cons_zero, List.set_cons_succ, i64_w, i32_w]
                rfl
              refine pure_ (i := 16) (N := some 45) (v := ?_) (a' := ?_) #[true, true, true, true, true, true, true, true, true, true, true, true, true, true, true, true, true, false, false, false, false, false, false] rfl rfl (any_of HT_.out (by kernel_rfl)) (fun _ _ _ h => h) (Or.inl ⟨by rfl, ?_⟩) ?_ ?_
              rotate_left
              · intro w'
                go_simp
                with_reducible rfl
              rotate_left
              · simp only [Act.put, List.setIfInBounds_toArray, List.set_cons_zero, List.set_cons_succ, i64_w, i32_w]
                rfl
              refine pure_ (i := 17) (N := some 46) (v := ?_) (a' := ?_) #[true, true, true, true, true, true, true, true, true, true, true, true, true, true, true, true, true, true, false, false, false, false, false] rfl rfl (any_of HT_.out (by kernel_rfl)) (fun _ _ _ h => h) (Or.inl ⟨by rfl, ?_⟩) ?_ ?_
              rotate_left
              · intro w'
                go_simp
                with_reducible rfl
              rotate_left
              · simp only [Act.put, List.setIfInBounds_toArray, List.set_cons_zero, List.set_cons_succ, i64_w, i32_w]
                rfl
              refine take_ (i := 18) (N := some 47) (v := ?_) (a' := ?_) #[true, true, true, true, true, true, true, true, true, true, true, true, true, true, true, true, true, true, true, false, false, false, false] rfl rfl (take_ofW HT_.out HW_.out (by kernel_rfl)) (fun _ _ _ h => h) (Or.inl ⟨by rfl, ?_⟩) hHeld ?_ ?_
              rotate_left
              · rintro w' ⟨s0, s1, s2, s3, s4, s5, s6, s7, s8, s9, s10⟩
                go_simp
                with_reducible rfl
              rotate_left
              · simp only [Act.put, List.setIfInBounds_toArray, List.set_cons_zero, List.set_cons_succ, i64_w, i32_w]
                rfl
              refine take_ (i := 19) (N := some 48) (v := ?_) (a' := ?_) #[true, true, true, true, true, true, true, true, true, true, true, true, true, true, true, true, true, true, true, true, false, false, false] rfl rfl (take_ofW HT_.out HW_.out (by kernel_rfl)) (fun _ _ _ h => h) (Or.inl ⟨by rfl, ?_⟩) hHeld ?_ ?_
              rotate_left
              · rintro w' ⟨s0, s1, s2, s3, s4, s5, s6, s7, s8, s9, s10⟩
                go_simp
                with_reducible rfl
              rotate_left
              · simp only [Act.put, List.setIfInBounds_toArray, List.set_cons_zero, List.set_cons_succ, i64_w, i32_w]
                rfl
              refine one_ (i := 20) (N := some 49) #[true, true, true, true, true, true, true, true, true, true, true, true, true, true, true, true, true, true, true, true, true, false, false] rfl rfl (one_of HT_.out (by kernel_rfl)) (by decide) (fun K hK => ?_)
              refine goes_ Try.func17 (by kernel_rfl) rfl #[.agg #[.slice Ao17 t274.length co17, .slice Ao20 t277.length co20, .slice Ao21 t280.length co21], .agg #[.slice Ao25 t285.length co25, .slice Ao29 t288.length co29, .slice Ao30 t291.length co30]] (by rfl) rfl rfl (by (try simp only [List.map_toArray, List.map_cons, List.map_nil]); first | done | rfl | (simp only [List.length_drop, List.length_take]; rfl)) ?_
              with_reducible refine (crossroadsref17_Same.calls k _ _ t274 _ _ t277 _ _ t280 _ _ t285 _ _ t288 _ _ t291 t300 _ ?side1 ?side2 ?side3 ?side4 ?side5 ?side6 ?side7 ?side8 ?side9 ?side10 ?side11 ?side12 A48.out).mono ?_
              (case side1 => repeat (first | exact (Kd.V_reads' HO276.out).2.2 | (with_reducible refine Kd.C_alloc ?_ _) | (with_reducible refine Kd.C_drewN ?_ _) | (with_reducible refine Kd.C_drew ?_)))
              (case side2 => exact (Kd.V_reads' HO276.out).2.1)
              (case side3 => repeat (first | exact (Kd.V_reads' HO279.out).2.2 | (with_reducible refine Kd.C_alloc ?_ _) | (with_reducible refine Kd.C_drewN ?_ _) | (with_reducible refine Kd.C_drew ?_)))
              (case side4 => exact (Kd.V_reads' HO279.out).2.1)
              (case side5 => repeat (first | exact (Kd.V_reads' HO282.out).2.2 | (with_reducible refine Kd.C_alloc ?_ _) | (with_reducible refine Kd.C_drewN ?_ _) | (with_reducible refine Kd.C_drew ?_)))
              (case side6 => exact (Kd.V_reads' HO282.out).2.1)
              (case side7 => repeat (first | exact (Kd.V_reads' HO287.out).2.2 | (with_reducible refine Kd.C_alloc ?_ _) | (with_reducible refine Kd.C_drewN ?_ _) | (with_reducible refine Kd.C_drew ?_)))
              (case side8 => exact (Kd.V_reads' HO287.out).2.1)
              (case side9 => repeat (first | exact (Kd.V_reads' HO290.out).2.2 | (with_reducible refine Kd.C_alloc ?_ _) | (with_reducible refine Kd.C_drewN ?_ _) | (with_reducible refine Kd.C_drew ?_)))
              (case side10 => exact (Kd.V_reads' HO290.out).2.1)
              (case side11 => repeat (first | exact (Kd.V_reads' HO293.out).2.2 | (with_reducible refine Kd.C_alloc ?_ _) | (with_reducible refine Kd.C_drewN ?_ _) | (with_reducible refine Kd.C_drew ?_)))
              (case side12 => exact (Kd.V_reads' HO293.out).2.1)
              rintro e w55 ⟨rfl, hb⟩
              refine ⟨_, rfl, ?_⟩
              have n0_ := Aside0.mk (Kd.V_below (by (with_reducible repeat (first | apply Kd.V_alloc | apply Kd.V_drewN | apply Kd.V_drew)); exact HO276.out) hb)
              have n1_ := Aside0.mk (Kd.V_below (by (with_reducible repeat (first | apply Kd.V_alloc | apply Kd.V_drewN | apply Kd.V_drew)); exact HO279.out) hb)
              have n2_ := Aside0.mk (Kd.V_below (by (with_reducible repeat (first | apply Kd.V_alloc | apply Kd.V_drewN | apply Kd.V_drew)); exact HO282.out) hb)
              have n3_ := Aside0.mk (Kd.V_below (by (with_reducible repeat (first | apply Kd.V_alloc | apply Kd.V_drewN | apply Kd.V_drew)); exact HO287.out) hb)
              have n4_ := Aside0.mk (Kd.V_below (by (with_reducible repeat (first | apply Kd.V_alloc | apply Kd.V_drewN | apply Kd.V_drew)); exact HO290.out) hb)
              have n5_ := Aside0.mk (Kd.V_below (by (with_reducible repeat (first | apply Kd.V_alloc | apply Kd.V_drewN | apply Kd.V_drew)); exact HO293.out) hb)
              have n6_ := Aside0.mk (blk_below (g := gb271) (o := .cells #[.slice A0_0 l0_0.length c0_0, .slice A0_1 l0_1.length c0_1, .int .i64 a0_2, .int .i64 a0_3, .int .i64 a0_4] 25 (0, 0)) (by (with_reducible repeat (first | refine blk_drewN ?_ _ | refine blk_drew ?_ | refine blk_alloc ?_ _)); exact BK271.out) hb)
              have n7_ := Aside0.mk (blk_below (g := gb284) (o := .cells #[.slice Ao17 t274.length co17, .slice Ao20 t277.length co20, .slice Ao21 t280.length co21] 31 (0, 0)) (by (with_reducible repeat (first | refine blk_drewN ?_ _ | refine blk_drew ?_ | refine blk_alloc ?_ _)); exact BK284.out) hb)
              have n8_ := Aside0.mk (blk_below (g := gb295) (o := .cells #[.slice Ao25 t285.length co25, .slice Ao29 t288.length co29, .slice Ao30 t291.length co30] 31 (0, 0)) (by (with_reducible repeat (first | refine blk_drewN ?_ _ | refine blk_drew ?_ | refine blk_alloc ?_ _)); exact BK295.out) hb)
              have n9_ := Aside0.mk (below_step (by repeat (first | (with_reducible first | exact HB.out | apply below_alloc | apply pw_below_drewN | apply below_drew1 | refine below_set ?_ GE271.out | refine below_set ?_ GE284.out | refine below_set ?_ GE295.out) | exact HB.out)) hb)
              clear HO276
              clear HO279
              clear HO282
              clear HO287
              clear HO290
              clear HO293
              clear BK271
              clear BK284
              clear BK295
              clear HB
              have HO276 := n0_
              have HO279 := n1_
              have HO282 := n2_
              have HO287 := n3_
              have HO290 := n4_
              have HO293 := n5_
              have BK271 := n6_
              have BK284 := n7_
              have BK295 := n8_
              have HB := n9_
              clear n0_ n1_ n2_ n3_ n4_ n5_ n6_ n7_ n8_ n9_
              (try clear hb)
              (try clear hb2)
              (try clear hk)
              (try clear hi)
              refine hK.out _ _ ⟨(blk_cell BK271.out 0).trans rfl, (blk_cell BK271.out 1).trans rfl, (blk_cell BK271.out 2).trans rfl, (blk_cell BK271.out 3).trans rfl, (blk_cell BK271.out 4).trans rfl, (blk_cell BK284.out 0).trans rfl, (blk_cell BK284.out 1).trans rfl, (blk_cell BK284.out 2).trans rfl, (blk_cell BK295.out 0).trans rfl, (blk_cell BK295.out 1).trans rfl, (blk_cell BK295.out 2).trans rfl⟩ (fun hHeld => ?_)
              clear hK K
              refine norm_ (a' := ?_) ?_ ?_
              rotate_left
              · show Act.put _ (some 49) _ = _
                simp only [Act.put, List.setIfInBounds_toArray, List.set_cons_zero, List.set_cons_succ, i64_w, i32_w]
                rfl
              refine pure_ (i := 21) (N := some 50) (v := ?_) (a' := ?_) #[true, true, true, true, true, true, true, true, true, true, true, true, true, true, true, true, true, true, true, true, true, true, false] rfl rfl (any_of HT_.out (by kernel_rfl)) (fun _ _ _ h => h) (Or.inl ⟨by rfl, ?_⟩) ?_ ?_
              rotate_left
              · intro w'
                go_simp
                with_reducible rfl
              rotate_left
              · simp only [Act.put, List.setIfInBounds_toArray, List.set_cons_zero, List.set_cons_succ, i64_w, i32_w]
                rfl
              refine pure_ (i := 22) (N := some 51) (v := ?_) (a' := ?_) #[true, true, true, true, true, true, true, true, true, true, true, true, true, true, true, true, true, true, true, true, true, true, true] rfl rfl (any_of HT_.out (by kernel_rfl)) (fun _ _ _ h => h) (Or.inl ⟨by rfl, ?_⟩) ?_ ?_
              rotate_left
              · intro w'
                go_simp
                with_reducible rfl
              rotate_left
              · simp only [Act.put, List.setIfInBounds_toArray, List.set_cons_zero, List.set_cons_succ, i64_w, i32_w]
                rfl
              refine done_ (done_of HT_.out (by kernel_rfl)) ?_
              try go_wp2
              go_meet
              case rel => exact ⟨_, (!t300), (by first | rfl | (simp; done) | (simp [*]; done)), H', ⟨by first | omega | exact Nat.le_refl _⟩, ⟨by (with_reducible repeat (first | apply Kd.V_alloc | apply Kd.V_drewN | apply Kd.V_drew)); exact HO276.out⟩, ⟨by (with_reducible repeat (first | apply Kd.V_alloc | apply Kd.V_drewN | apply Kd.V_drew)); exact HO279.out⟩, ⟨by (with_reducible repeat (first | apply Kd.V_alloc | apply Kd.V_drewN | apply Kd.V_drew)); exact HO282.out⟩, ⟨by (with_reducible repeat (first | apply Kd.V_alloc | apply Kd.V_drewN | apply Kd.V_drew)); exact HO287.out⟩, ⟨by (with_reducible repeat (first | apply Kd.V_alloc | apply Kd.V_drewN | apply Kd.V_drew)); exact HO290.out⟩, ⟨by (with_reducible repeat (first | apply Kd.V_alloc | apply Kd.V_drewN | apply Kd.V_drew)); exact HO293.out⟩, ⟨by (with_reducible repeat (first | refine blk_drewN ?_ _ | refine blk_drew ?_ | refine blk_alloc ?_ _)); exact BK271.out⟩, ⟨by (with_reducible repeat (first | refine blk_drewN ?_ _ | refine blk_drew ?_ | refine blk_alloc ?_ _)); exact BK284.out⟩, ⟨by (with_reducible repeat (first | refine blk_drewN ?_ _ | refine blk_drew ?_ | refine blk_alloc ?_ _)); exact BK295.out⟩, ⟨by repeat (first | (with_reducible first | exact HB.out | apply below_alloc | apply pw_below_drewN | apply below_drew1 | refine below_set ?_ GE271.out | refine below_set ?_ GE284.out | refine below_set ?_ GE295.out) | exact HB.out)⟩⟩
          · rw [if_neg c40] at H
            have c40b0 : (t298 == t299) = false := beq_eq_false_iff_ne.mpr c40
            have c40b1 : (t298 != t299) = true := bne_iff_ne.mpr c40
            have H' := Aside0.mk H
            clear H
            try go_wp2
            have n0_ : Aside0 (Kd.V (Kd.slice 5 (Kd.int .u8)) 42 (((w24.setCell ⟨gb295, 0, none⟩ (.slice Ao25 t285.length co25)).setCell ⟨gb295, 1, none⟩ (.slice Ao29 t288.length co29)).setCell ⟨gb295, 2, none⟩ (.slice Ao30 t291.length co30)) w.heap.size (fun k_ => k_ ≠ gb271 ∧ k_ ≠ gb284 ∧ k_ ≠ gb295) (.slice Ao17 t274.length co17) t274) := ⟨by (with_reducible repeat (first | apply Kd.V_alloc | apply Kd.V_drewN | apply Kd.V_drew)); exact Kd.V_mono (Kd.V_far (p := ⟨gb295, 2, none⟩) (Kd.V_far (p := ⟨gb295, 1, none⟩) (Kd.V_far (p := ⟨gb295, 0, none⟩) (Kd.V_mono HO276.out (fun k_ hk => (⟨hk, hk.2⟩ : _ ∧ k_ ≠ gb295))) (fun _ hk => hk.2) (.slice Ao25 t285.length co25)) (fun _ hk => hk.2) (.slice Ao29 t288.length co29)) (fun _ hk => hk.2) (.slice Ao30 t291.length co30)) (fun _ hk => ⟨hk.1.1.1, ⟨hk.1.1.2, hk.1.2⟩⟩)⟩
            have n1_ : Aside0 (Kd.V (Kd.slice 5 (Kd.int .u8)) 42 (((w24.setCell ⟨gb295, 0, none⟩ (.slice Ao25 t285.length co25)).setCell ⟨gb295, 1, none⟩ (.slice Ao29 t288.length co29)).setCell ⟨gb295, 2, none⟩ (.slice Ao30 t291.length co30)) w.heap.size (fun k_ => k_ ≠ gb271 ∧ k_ ≠ gb284 ∧ k_ ≠ gb295) (.slice Ao20 t277.length co20) t277) := ⟨by (with_reducible repeat (first | apply Kd.V_alloc | apply Kd.V_drewN | apply Kd.V_drew)); exact Kd.V_mono (Kd.V_far (p := ⟨gb295, 2, none⟩) (Kd.V_far (p := ⟨gb295, 1, none⟩) (Kd.V_far (p := ⟨gb295, 0, none⟩) (Kd.V_mono HO279.out (fun k_ hk => (⟨hk, hk.2⟩ : _ ∧ k_ ≠ gb295))) (fun _ hk => hk.2) (.slice Ao25 t285.length co25)) (fun _ hk => hk.2) (.slice Ao29 t288.length co29)) (fun _ hk => hk.2) (.slice Ao30 t291.length co30)) (fun _ hk => ⟨hk.1.1.1, ⟨hk.1.1.2, hk.1.2⟩⟩)⟩
            have n2_ : Aside0 (Kd.V Kd.bool 4 (((w24.setCell ⟨gb295, 0, none⟩ (.slice Ao25 t285.length co25)).setCell ⟨gb295, 1, none⟩ (.slice Ao29 t288.length co29)).setCell ⟨gb295, 2, none⟩ (.slice Ao30 t291.length co30)) w.heap.size (fun k_ => k_ ≠ gb271 ∧ k_ ≠ gb284 ∧ k_ ≠ gb295) (.slice Ao21 t280.length co21) t280) := ⟨by (with_reducible repeat (first | apply Kd.V_alloc | apply Kd.V_drewN | apply Kd.V_drew)); exact Kd.V_mono (Kd.V_far (p := ⟨gb295, 2, none⟩) (Kd.V_far (p := ⟨gb295, 1, none⟩) (Kd.V_far (p := ⟨gb295, 0, none⟩) (Kd.V_mono HO282.out (fun k_ hk => (⟨hk, hk.2⟩ : _ ∧ k_ ≠ gb295))) (fun _ hk => hk.2) (.slice Ao25 t285.length co25)) (fun _ hk => hk.2) (.slice Ao29 t288.length co29)) (fun _ hk => hk.2) (.slice Ao30 t291.length co30)) (fun _ hk => ⟨hk.1.1.1, ⟨hk.1.1.2, hk.1.2⟩⟩)⟩
            have n3_ : Aside0 (Kd.V (Kd.slice 5 (Kd.int .u8)) 42 (((w24.setCell ⟨gb295, 0, none⟩ (.slice Ao25 t285.length co25)).setCell ⟨gb295, 1, none⟩ (.slice Ao29 t288.length co29)).setCell ⟨gb295, 2, none⟩ (.slice Ao30 t291.length co30)) w.heap.size (fun k_ => k_ ≠ gb271 ∧ k_ ≠ gb284 ∧ k_ ≠ gb295) (.slice Ao25 t285.length co25) t285) := ⟨by (with_reducible repeat (first | apply Kd.V_alloc | apply Kd.V_drewN | apply Kd.V_drew)); exact Kd.V_mono (Kd.V_far (p := ⟨gb295, 2, none⟩) (Kd.V_far (p := ⟨gb295, 1, none⟩) (Kd.V_far (p := ⟨gb295, 0, none⟩) (Kd.V_mono HO287.out (fun k_ hk => (⟨hk, hk.2⟩ : _ ∧ k_ ≠ gb295))) (fun _ hk => hk.2) (.slice Ao25 t285.length co25)) (fun _ hk => hk.2) (.slice Ao29 t288.length co29)) (fun _ hk => hk.2) (.slice Ao30 t291.length co30)) (fun _ hk => ⟨hk.1.1.1, ⟨hk.1.1.2, hk.1.2⟩⟩)⟩
            have n4_ : Aside0 (Kd.V (Kd.slice 5 (Kd.int .u8)) 42 (((w24.setCell ⟨gb295, 0, none⟩ (.slice Ao25 t285.length co25)).setCell ⟨gb295, 1, none⟩ (.slice Ao29 t288.length co29)).setCell ⟨gb295, 2, none⟩ (.slice Ao30 t291.length co30)) w.heap.size (fun k_ => k_ ≠ gb271 ∧ k_ ≠ gb284 ∧ k_ ≠ gb295) (.slice Ao29 t288.length co29) t288) := ⟨by (with_reducible repeat (first | apply Kd.V_alloc | apply Kd.V_drewN | apply Kd.V_drew)); exact Kd.V_mono (Kd.V_far (p := ⟨gb295, 2, none⟩) (Kd.V_far (p := ⟨gb295, 1, none⟩) (Kd.V_far (p := ⟨gb295, 0, none⟩) (Kd.V_mono HO290.out (fun k_ hk => (⟨hk, hk.2⟩ : _ ∧ k_ ≠ gb295))) (fun _ hk => hk.2) (.slice Ao25 t285.length co25)) (fun _ hk => hk.2) (.slice Ao29 t288.length co29)) (fun _ hk => hk.2) (.slice Ao30 t291.length co30)) (fun _ hk => ⟨hk.1.1.1, ⟨hk.1.1.2, hk.1.2⟩⟩)⟩
            have n5_ : Aside0 (Kd.V Kd.bool 4 (((w24.setCell ⟨gb295, 0, none⟩ (.slice Ao25 t285.length co25)).setCell ⟨gb295, 1, none⟩ (.slice Ao29 t288.length co29)).setCell ⟨gb295, 2, none⟩ (.slice Ao30 t291.length co30)) w.heap.size (fun k_ => k_ ≠ gb271 ∧ k_ ≠ gb284 ∧ k_ ≠ gb295) (.slice Ao30 t291.length co30) t291) := ⟨by (with_reducible repeat (first | apply Kd.V_alloc | apply Kd.V_drewN | apply Kd.V_drew)); exact Kd.V_mono (Kd.V_far (p := ⟨gb295, 2, none⟩) (Kd.V_far (p := ⟨gb295, 1, none⟩) (Kd.V_far (p := ⟨gb295, 0, none⟩) (Kd.V_mono HO293.out (fun k_ hk => (⟨hk, hk.2⟩ : _ ∧ k_ ≠ gb295))) (fun _ hk => hk.2) (.slice Ao25 t285.length co25)) (fun _ hk => hk.2) (.slice Ao29 t288.length co29)) (fun _ hk => hk.2) (.slice Ao30 t291.length co30)) (fun _ hk => ⟨hk.1.1.1, ⟨hk.1.1.2, hk.1.2⟩⟩)⟩
            have n6_ : Aside0 ((((w24.setCell ⟨gb295, 0, none⟩ (.slice Ao25 t285.length co25)).setCell ⟨gb295, 1, none⟩ (.slice Ao29 t288.length co29)).setCell ⟨gb295, 2, none⟩ (.slice Ao30 t291.length co30)).heap[gb271]? = some (.cells #[.slice A0_0 l0_0.length c0_0, .slice A0_1 l0_1.length c0_1, .int .i64 a0_2, .int .i64 a0_3, .int .i64 a0_4] 25 (0, 0))) := ⟨by (with_reducible repeat (first | refine blk_drewN ?_ _ | refine blk_drew ?_ | refine blk_alloc ?_ _)); refine blk_far ?_ NB271_295.out _; (with_reducible repeat (first | refine blk_drewN ?_ _ | refine blk_drew ?_ | refine blk_alloc ?_ _)); refine blk_far ?_ NB271_295.out _; (with_reducible repeat (first | refine blk_drewN ?_ _ | refine blk_drew ?_ | refine blk_alloc ?_ _)); refine blk_far ?_ NB271_295.out _; (with_reducible repeat (first | refine blk_drewN ?_ _ | refine blk_drew ?_ | refine blk_alloc ?_ _)); exact BK271.out⟩
            have n7_ : Aside0 ((((w24.setCell ⟨gb295, 0, none⟩ (.slice Ao25 t285.length co25)).setCell ⟨gb295, 1, none⟩ (.slice Ao29 t288.length co29)).setCell ⟨gb295, 2, none⟩ (.slice Ao30 t291.length co30)).heap[gb284]? = some (.cells #[.slice Ao17 t274.length co17, .slice Ao20 t277.length co20, .slice Ao21 t280.length co21] 31 (0, 0))) := ⟨by (with_reducible repeat (first | refine blk_drewN ?_ _ | refine blk_drew ?_ | refine blk_alloc ?_ _)); refine blk_far ?_ NB284_295.out _; (with_reducible repeat (first | refine blk_drewN ?_ _ | refine blk_drew ?_ | refine blk_alloc ?_ _)); refine blk_far ?_ NB284_295.out _; (with_reducible repeat (first | refine blk_drewN ?_ _ | refine blk_drew ?_ | refine blk_alloc ?_ _)); refine blk_far ?_ NB284_295.out _; (with_reducible repeat (first | refine blk_drewN ?_ _ | refine blk_drew ?_ | refine blk_alloc ?_ _)); exact BK284.out⟩
            have n8_ : Aside0 ((((w24.setCell ⟨gb295, 0, none⟩ (.slice Ao25 t285.length co25)).setCell ⟨gb295, 1, none⟩ (.slice Ao29 t288.length co29)).setCell ⟨gb295, 2, none⟩ (.slice Ao30 t291.length co30)).heap[gb295]? = some (.cells #[.slice Ao25 t285.length co25, .slice Ao29 t288.length co29, .slice Ao30 t291.length co30] 31 (0, 0))) := ⟨by (with_reducible repeat (first | refine blk_drewN ?_ _ | refine blk_drew ?_ | refine blk_alloc ?_ _)); refine blk_put (cs := #[.slice Ao25 t285.length co25, .slice Ao29 t288.length co29, .slice none 0 0]) ?_ 2 _ rfl; (with_reducible repeat (first | refine blk_drewN ?_ _ | refine blk_drew ?_ | refine blk_alloc ?_ _)); refine blk_put (cs := #[.slice Ao25 t285.length co25, .slice none 0 0, .slice none 0 0]) ?_ 1 _ rfl; (with_reducible repeat (first | refine blk_drewN ?_ _ | refine blk_drew ?_ | refine blk_alloc ?_ _)); refine blk_put (cs := #[.slice none 0 0, .slice none 0 0, .slice none 0 0]) ?_ 0 _ rfl; (with_reducible repeat (first | refine blk_drewN ?_ _ | refine blk_drew ?_ | refine blk_alloc ?_ _)); exact BK295.out⟩
            have n9_ : Aside0 (Below w.heap.size w (((w24.setCell ⟨gb295, 0, none⟩ (.slice Ao25 t285.length co25)).setCell ⟨gb295, 1, none⟩ (.slice Ao29 t288.length co29)).setCell ⟨gb295, 2, none⟩ (.slice Ao30 t291.length co30))) := ⟨by repeat (first | (with_reducible first | exact HB.out | apply below_alloc | apply pw_below_drewN | apply below_drew1 | refine below_set ?_ GE271.out | refine below_set ?_ GE284.out | refine below_set ?_ GE295.out) | exact HB.out)⟩
            (try clear HO276)
            (try clear HO279)
            (try clear HO282)
            (try clear HO287)
            (try clear HO290)
            (try clear HO293)
            (try clear BK271)
            (try clear BK284)
            (try clear BK295)
            (try clear HB)
            generalize (((w24.setCell ⟨gb295, 0, none⟩ (.slice Ao25 t285.length co25)).setCell ⟨gb295, 1, none⟩ (.slice Ao29 t288.length co29)).setCell ⟨gb295, 2, none⟩ (.slice Ao30 t291.length co30)) = w56 at n0_ n1_ n2_ n3_ n4_ n5_ n6_ n7_ n8_ n9_ ⊢
            have HO276 := n0_
            have HO279 := n1_
            have HO282 := n2_
            have HO287 := n3_
            have HO290 := n4_
            have HO293 := n5_
            have BK271 := n6_
            have BK284 := n7_
            have BK295 := n8_
            have HB := n9_
            clear n0_ n1_ n2_ n3_ n4_ n5_ n6_ n7_ n8_ n9_
            have n0_ := Aside0.mk (Kd.V_drew HO276.out)
            have n1_ := Aside0.mk (Kd.V_drew HO279.out)
            have n2_ := Aside0.mk (Kd.V_drew HO282.out)
            have n3_ := Aside0.mk (Kd.V_drew HO287.out)
            have n4_ := Aside0.mk (Kd.V_drew HO290.out)
            have n5_ := Aside0.mk (Kd.V_drew HO293.out)
            have n6_ := Aside0.mk (blk_drew BK271.out)
            have n7_ := Aside0.mk (blk_drew BK284.out)
            have n8_ := Aside0.mk (blk_drew BK295.out)
            have n9_ := Aside0.mk (below_drew1 HB.out)
            clear HO276
            clear HO279
            clear HO282
            clear HO287
            clear HO290
            clear HO293
            clear BK271
            clear BK284
            clear BK295
            clear HB
            have HO276 := n0_
            have HO279 := n1_
            have HO282 := n2_
            have HO287 := n3_
            have HO290 := n4_
            have HO293 := n5_
            have BK271 := n6_
            have BK284 := n7_
            have BK295 := n8_
            have HB := n9_
            clear n0_ n1_ n2_ n3_ n4_ n5_ n6_ n7_ n8_ n9_
            refine start_ (n := 23) (S := fun w' => w'.cell? ⟨gb271, 0, none⟩ = some (.slice A0_0 l0_0.length c0_0) ∧ w'.cell? ⟨gb271, 1, none⟩ = some (.slice A0_1 l0_1.length c0_1) ∧ w'.cell? ⟨gb271, 2, none⟩ = some (.int .i64 a0_2) ∧ w'.cell? ⟨gb271, 3, none⟩ = some (.int .i64 a0_3) ∧ w'.cell? ⟨gb271, 4, none⟩ = some (.int .i64 a0_4)) (ds := []) #[false, false, false, false, false, false, false, false, false, false, false, false, false, false, false, false, false, false, false, false, false, false, false] (by kernel_rfl) rfl rfl ⟨(blk_cell BK271.out 0).trans rfl, (blk_cell BK271.out 1).trans rfl, (blk_cell BK271.out 2).trans rfl, (blk_cell BK271.out 3).trans rfl, (blk_cell BK271.out 4).trans rfl⟩ (fun hHeld => ?_); refine with_tabW crossroadslaw17_ClassCounts.tab7 crossroadslaw17_ClassCounts.bits7 (fun HT_ HW_ => ?_)
            generalize w56.drew = w57 at HO276 HO279 HO282 HO287 HO290 HO293 BK271 BK284 BK295 HB hHeld ⊢
            refine take_ (i := 0) (N := some 29) (v := ?_) (a' := ?_) #[true, false, false, false, false, false, false, false, false, false, false, false, false, false, false, false, false, false, false, false, false, false, false] rfl rfl (take_ofW HT_.out HW_.out (by kernel_rfl)) (fun _ _ _ h => h) (Or.inl ⟨by rfl, ?_⟩) hHeld ?_ ?_
            rotate_left
            · rintro w' ⟨s0, s1, s2, s3, s4⟩
              go_simp
              with_reducible rfl
            rotate_left
            · simp only [Act.put, List.setIfInBounds_toArray, List.set_cons_zero, List.set_cons_succ, i64_w, i32_w]
              rfl
            refine take_ (i := 2) (N := some 31) (v := ?_) (a' := ?_) #[true, false, true, false, false, false, false, false, false, false, false, false, false, false, false, false, false, false, false, false, false, false, false] rfl rfl (take_ofW HT_.out HW_.out (by kernel_rfl)) (fun _ _ _ h => h) (Or.inl ⟨by rfl, ?_⟩) hHeld ?_ ?_
            rotate_left
            · rintro w' ⟨s0, s1, s2, s3, s4⟩
              go_simp
              with_reducible rfl
            rotate_left
            · simp only [Act.put, List.setIfInBounds_toArray, List.set_cons_zero, List.set_cons_succ, i64_w, i32_w]
              rfl
            refine one_ (i := 1) (N := some 30) #[true, true, true, false, false, false, false, false, false, false, false, false, false, false, false, false, false, false, false, false, false, false, false] rfl rfl (one_of HT_.out (by kernel_rfl)) (by decide) (fun K hK => ?_)
            refine goes_ Try.func13 (by kernel_rfl) rfl #[.agg #[.slice A0_0 l0_0.length c0_0, .slice A0_1 l0_1.length c0_1, .int .i64 a0_2, .int .i64 a0_3, .int .i64 a0_4]] (by rfl) rfl rfl (by (try simp only [List.map_toArray, List.map_cons, List.map_nil]); first | done | rfl | (simp only [List.length_drop, List.length_take]; rfl)) ?_
            with_reducible refine (class_May.calls _ _ l0_0 _ _ l0_1 a0_2 a0_3 a0_4 t296 _ ?side1 ?side2 ?side3 ?side4 A31.out).mono ?_
            (case side1 => repeat (first | exact (Kd.C_below HR0_0.out HB.out) | (with_reducible refine Kd.C_alloc ?_ _) | (with_reducible refine Kd.C_drewN ?_ _) | (with_reducible refine Kd.C_drew ?_)))
            (case side2 => exact HC0_0.out)
            (case side3 => repeat (first | exact (Kd.C_below HR0_1.out HB.out) | (with_reducible refine Kd.C_alloc ?_ _) | (with_reducible refine Kd.C_drewN ?_ _) | (with_reducible refine Kd.C_drew ?_)))
            (case side4 => exact HC0_1.out)
            rintro e w58 ⟨rfl, hb⟩
            refine ⟨_, rfl, ?_⟩
            have n0_ := Aside0.mk (Kd.V_below (by (with_reducible repeat (first | apply Kd.V_alloc | apply Kd.V_drewN | apply Kd.V_drew)); exact HO276.out) hb)
            have n1_ := Aside0.mk (Kd.V_below (by (with_reducible repeat (first | apply Kd.V_alloc | apply Kd.V_drewN | apply Kd.V_drew)); exact HO279.out) hb)
            have n2_ := Aside0.mk (Kd.V_below (by (with_reducible repeat (first | apply Kd.V_alloc | apply Kd.V_drewN | apply Kd.V_drew)); exact HO282.out) hb)
            have n3_ := Aside0.mk (Kd.V_below (by (with_reducible repeat (first | apply Kd.V_alloc | apply Kd.V_drewN | apply Kd.V_drew)); exact HO287.out) hb)
            have n4_ := Aside0.mk (Kd.V_below (by (with_reducible repeat (first | apply Kd.V_alloc | apply Kd.V_drewN | apply Kd.V_drew)); exact HO290.out) hb)
            have n5_ := Aside0.mk (Kd.V_below (by (with_reducible repeat (first | apply Kd.V_alloc | apply Kd.V_drewN | apply Kd.V_drew)); exact HO293.out) hb)
            have n6_ := Aside0.mk (blk_below (g := gb271) (o := .cells #[.slice A0_0 l0_0.length c0_0, .slice A0_1 l0_1.length c0_1, .int .i64 a0_2, .int .i64 a0_3, .int .i64 a0_4] 25 (0, 0)) (by (with_reducible repeat (first | refine blk_drewN ?_ _ | refine blk_drew ?_ | refine blk_alloc ?_ _)); exact BK271.out) hb)
            have n7_ := Aside0.mk (blk_below (g := gb284) (o := .cells #[.slice Ao17 t274.length co17, .slice Ao20 t277.length co20, .slice Ao21 t280.length co21] 31 (0, 0)) (by (with_reducible repeat (first | refine blk_drewN ?_ _ | refine blk_drew ?_ | refine blk_alloc ?_ _)); exact BK284.out) hb)
            have n8_ := Aside0.mk (blk_below (g := gb295) (o := .cells #[.slice Ao25 t285.length co25, .slice Ao29 t288.length co29, .slice Ao30 t291.length co30] 31 (0, 0)) (by (with_reducible repeat (first | refine blk_drewN ?_ _ | refine blk_drew ?_ | refine blk_alloc ?_ _)); exact BK295.out) hb)
            have n9_ := Aside0.mk (below_step (by repeat (first | (with_reducible first | exact HB.out | apply below_alloc | apply pw_below_drewN | apply below_drew1 | refine below_set ?_ GE271.out | refine below_set ?_ GE284.out | refine below_set ?_ GE295.out) | exact HB.out)) hb)
            clear HO276
            clear HO279
            clear HO282
            clear HO287
            clear HO290
            clear HO293
            clear BK271
            clear BK284
            clear BK295
            clear HB
            have HO276 := n0_
            have HO279 := n1_
            have HO282 := n2_
            have HO287 := n3_
            have HO290 := n4_
            have HO293 := n5_
            have BK271 := n6_
            have BK284 := n7_
            have BK295 := n8_
            have HB := n9_
            clear n0_ n1_ n2_ n3_ n4_ n5_ n6_ n7_ n8_ n9_
            (try clear hb)
            (try clear hb2)
            (try clear hk)
            (try clear hi)
            refine hK.out _ _ ⟨(blk_cell BK271.out 0).trans rfl, (blk_cell BK271.out 1).trans rfl, (blk_cell BK271.out 2).trans rfl, (blk_cell BK271.out 3).trans rfl, (blk_cell BK271.out 4).trans rfl⟩ (fun hHeld => ?_)
            clear hK K
            refine norm_ (a' := ?_) ?_ ?_
            rotate_left
            · show Act.put _ (some 30) _ = _
              simp only [Act.put, List.setIfInBounds_toArray, List.set_cons_zero, List.set_cons_succ, i64_w, i32_w]
              rfl
            refine one_ (i := 3) (N := some 32) #[true, true, true, true, false, false, false, false, false, false, false, false, false, false, false, false, false, false, false, false, false, false, false] rfl rfl (one_of HT_.out (by kernel_rfl)) (by decide) (fun K hK => ?_)
            refine goes_ Try.func14 (by kernel_rfl) rfl #[.agg #[.slice A0_0 l0_0.length c0_0, .slice A0_1 l0_1.length c0_1, .int .i64 a0_2, .int .i64 a0_3, .int .i64 a0_4]] (by rfl) rfl rfl (by (try simp only [List.map_toArray, List.map_cons, List.map_nil]); first | done | rfl | (simp only [List.length_drop, List.length_take]; rfl)) ?_
            with_reducible refine (crossroadsref17_May.calls _ _ l0_0 _ _ l0_1 a0_2 a0_3 a0_4 t297 _ ?side1 ?side2 ?side3 ?side4 A32.out).mono ?_
            (case side1 => repeat (first | exact (Kd.C_below HR0_0.out HB.out) | (with_reducible refine Kd.C_alloc ?_ _) | (with_reducible refine Kd.C_drewN ?_ _) | (with_reducible refine Kd.C_drew ?_)))
            (case side2 => exact HC0_0.out)
            (case side3 => repeat (first | exact (Kd.C_below HR0_1.out HB.out) | (with_reducible refine Kd.C_alloc ?_ _) | (with_reducible refine Kd.C_drewN ?_ _) | (with_reducible refine Kd.C_drew ?_)))
            (case side4 => exact HC0_1.out)
            rintro e w59 ⟨rfl, hb⟩
            refine ⟨_, rfl, ?_⟩
            have n0_ := Aside0.mk (Kd.V_below (by (with_reducible repeat (first | apply Kd.V_alloc | apply Kd.V_drewN | apply Kd.V_drew)); exact HO276.out) hb)
            have n1_ := Aside0.mk (Kd.V_below (by (with_reducible repeat (first | apply Kd.V_alloc | apply Kd.V_drewN | apply Kd.V_drew)); exact HO279.out) hb)
            have n2_ := Aside0.mk (Kd.V_below (by (with_reducible repeat (first | apply Kd.V_alloc | apply Kd.V_drewN | apply Kd.V_drew)); exact HO282.out) hb)
            have n3_ := Aside0.mk (Kd.V_below (by (with_reducible repeat (first | apply Kd.V_alloc | apply Kd.V_drewN | apply Kd.V_drew)); exact HO287.out) hb)
            have n4_ := Aside0.mk (Kd.V_below (by (with_reducible repeat (first | apply Kd.V_alloc | apply Kd.V_drewN | apply Kd.V_drew)); exact HO290.out) hb)
            have n5_ := Aside0.mk (Kd.V_below (by (with_reducible repeat (first | apply Kd.V_alloc | apply Kd.V_drewN | apply Kd.V_drew)); exact HO293.out) hb)
            have n6_ := Aside0.mk (blk_below (g := gb271) (o := .cells #[.slice A0_0 l0_0.length c0_0, .slice A0_1 l0_1.length c0_1, .int .i64 a0_2, .int .i64 a0_3, .int .i64 a0_4] 25 (0, 0)) (by (with_reducible repeat (first | refine blk_drewN ?_ _ | refine blk_drew ?_ | refine blk_alloc ?_ _)); exact BK271.out) hb)
            have n7_ := Aside0.mk (blk_below (g := gb284) (o := .cells #[.slice Ao17 t274.length co17, .slice Ao20 t277.length co20, .slice Ao21 t280.length co21] 31 (0, 0)) (by (with_reducible repeat (first | refine blk_drewN ?_ _ | refine blk_drew ?_ | refine blk_alloc ?_ _)); exact BK284.out) hb)
            have n8_ := Aside0.mk (blk_below (g := gb295) (o := .cells #[.slice Ao25 t285.length co25, .slice Ao29 t288.length co29, .slice Ao30 t291.length co30] 31 (0, 0)) (by (with_reducible repeat (first | refine blk_drewN ?_ _ | refine blk_drew ?_ | refine blk_alloc ?_ _)); exact BK295.out) hb)
            have n9_ := Aside0.mk (below_step (by repeat (first | (with_reducible first | exact HB.out | apply below_alloc | apply pw_below_drewN | apply below_drew1 | refine below_set ?_ GE271.out | refine below_set ?_ GE284.out | refine below_set ?_ GE295.out) | exact HB.out)) hb)
            clear HO276
            clear HO279
            clear HO282
            clear HO287
            clear HO290
            clear HO293
            clear BK271
            clear BK284
            clear BK295
            clear HB
            have HO276 := n0_
            have HO279 := n1_
            have HO282 := n2_
            have HO287 := n3_
            have HO290 := n4_
            have HO293 := n5_
            have BK271 := n6_
            have BK284 := n7_
            have BK295 := n8_
            have HB := n9_
            clear n0_ n1_ n2_ n3_ n4_ n5_ n6_ n7_ n8_ n9_
            (try clear hb)
            (try clear hb2)
            (try clear hk)
            (try clear hi)
            refine hK.out _ _ ⟨(blk_cell BK271.out 0).trans rfl, (blk_cell BK271.out 1).trans rfl, (blk_cell BK271.out 2).trans rfl, (blk_cell BK271.out 3).trans rfl, (blk_cell BK271.out 4).trans rfl⟩ (fun hHeld => ?_)
            clear hK K
            refine norm_ (a' := ?_) ?_ ?_
            rotate_left
            · show Act.put _ (some 32) _ = _
              simp only [Act.put, List.setIfInBounds_toArray, List.set_cons_zero, List.set_cons_succ, i64_w, i32_w]
              rfl
            refine pure_ (i := 4) (N := some 33) (v := ?_) (a' := ?_) #[true, true, true, true, true, false, false, false, false, false, false, false, false, false, false, false, false, false, false, false, false, false, false] rfl rfl (any_of HT_.out (by kernel_rfl)) (fun _ _ _ h => h) (Or.inl ⟨by rfl, ?_⟩) ?_ ?_
            rotate_left
            · intro w'
              go_simp
              with_reducible rfl
            rotate_left
            · simp only [Act.put, List.setIfInBounds_toArray, List.set_cons_zero, List.set_cons_succ, i64_w, i32_w]
              rfl
            refine pure_ (i := 5) (N := some 34) (v := ?_) (a' := ?_) #[true, true, true, true, true, true, false, false, false, false, false, false, false, false, false, false, false, false, false, false, false, false, false] rfl rfl (any_of HT_.out (by kernel_rfl)) (fun _ _ _ h => h) (Or.inl ⟨by rfl, ?_⟩) ?_ ?_
            rotate_left
            · intro w'
              go_simp
              with_reducible rfl
            rotate_left
            · simp only [Act.put, List.setIfInBounds_toArray, List.set_cons_zero, List.set_cons_succ, i64_w, i32_w]
              rfl
            refine take_ (i := 6) (N := some 35) (v := ?_) (a' := ?_) #[true, true, true, true, true, true, true, false, false, false, false, false, false, false, false, false, false, false, false, false, false, false, false] rfl rfl (take_ofW HT_.out HW_.out (by kernel_rfl)) (fun _ _ _ h => h) (Or.inl ⟨by rfl, ?_⟩) hHeld ?_ ?_
            rotate_left
            · rintro w' ⟨s0, s1, s2, s3, s4⟩
              go_simp
              with_reducible rfl
            rotate_left
            · simp only [Act.put, List.setIfInBounds_toArray, List.set_cons_zero, List.set_cons_succ, i64_w, i32_w]
              rfl
            refine take_ (i := 8) (N := some 37) (v := ?_) (a' := ?_) #[true, true, true, true, true, true, true, false, true, false, false, false, false, false, false, false, false, false, false, false, false, false, false] rfl rfl (take_ofW HT_.out HW_.out (by kernel_rfl)) (fun _ _ _ h => h) (Or.inl ⟨by rfl, ?_⟩) hHeld ?_ ?_
            rotate_left
            · rintro w' ⟨s0, s1, s2, s3, s4⟩
              go_simp
              with_reducible rfl
            rotate_left
            · simp only [Act.put, List.setIfInBounds_toArray, List.set_cons_zero, List.set_cons_succ, i64_w, i32_w]
              rfl
            refine one_ (i := 7) (N := some 36) #[true, true, true, true, true, true, true, true, true, false, false, false, false, false, false, false, false, false, false, false, false, false, false] rfl rfl (one_of HT_.out (by kernel_rfl)) (by decide) (fun K hK => ?_)
            refine goes_ Try.func15 (by kernel_rfl) rfl #[.agg #[.slice A0_0 l0_0.length c0_0, .slice A0_1 l0_1.length c0_1, .int .i64 a0_2, .int .i64 a0_3, .int .i64 a0_4]] (by rfl) rfl rfl (by (try simp only [List.map_toArray, List.map_cons, List.map_nil]); first | done | rfl | (simp only [List.length_drop, List.length_take]; rfl)) ?_
            with_reducible refine (class_Count.calls k _ _ l0_0 _ _ l0_1 a0_2 a0_3 a0_4 t298 _ ?side1 ?side2 ?side3 ?side4 A38.out).mono ?_
            (case side1 => repeat (first | exact (Kd.C_below HR0_0.out HB.out) | (with_reducible refine Kd.C_alloc ?_ _) | (with_reducible refine Kd.C_drewN ?_ _) | (with_reducible refine Kd.C_drew ?_)))
            (case side2 => exact HC0_0.out)
            (case side3 => repeat (first | exact (Kd.C_below HR0_1.out HB.out) | (with_reducible refine Kd.C_alloc ?_ _) | (with_reducible refine Kd.C_drewN ?_ _) | (with_reducible refine Kd.C_drew ?_)))
            (case side4 => exact HC0_1.out)
            rintro e w60 ⟨rfl, hb⟩
            refine ⟨_, rfl, ?_⟩
            have n0_ := Aside0.mk (Kd.V_below (by (with_reducible repeat (first | apply Kd.V_alloc | apply Kd.V_drewN | apply Kd.V_drew)); exact HO276.out) hb)
            have n1_ := Aside0.mk (Kd.V_below (by (with_reducible repeat (first | apply Kd.V_alloc | apply Kd.V_drewN | apply Kd.V_drew)); exact HO279.out) hb)
            have n2_ := Aside0.mk (Kd.V_below (by (with_reducible repeat (first | apply Kd.V_alloc | apply Kd.V_drewN | apply Kd.V_drew)); exact HO282.out) hb)
            have n3_ := Aside0.mk (Kd.V_below (by (with_reducible repeat (first | apply Kd.V_alloc | apply Kd.V_drewN | apply Kd.V_drew)); exact HO287.out) hb)
            have n4_ := Aside0.mk (Kd.V_below (by (with_reducible repeat (first | apply Kd.V_alloc | apply Kd.V_drewN | apply Kd.V_drew)); exact HO290.out) hb)
            have n5_ := Aside0.mk (Kd.V_below (by (with_reducible repeat (first | apply Kd.V_alloc | apply Kd.V_drewN | apply Kd.V_drew)); exact HO293.out) hb)
            have n6_ := Aside0.mk (blk_below (g := gb271) (o := .cells #[.slice A0_0 l0_0.length c0_0, .slice A0_1 l0_1.length c0_1, .int .i64 a0_2, .int .i64 a0_3, .int .i64 a0_4] 25 (0, 0)) (by (with_reducible repeat (first | refine blk_drewN ?_ _ | refine blk_drew ?_ | refine blk_alloc ?_ _)); exact BK271.out) hb)
            have n7_ := Aside0.mk (blk_below (g := gb284) (o := .cells #[.slice Ao17 t274.length co17, .slice Ao20 t277.length co20, .slice Ao21 t280.length co21] 31 (0, 0)) (by (with_reducible repeat (first | refine blk_drewN ?_ _ | refine blk_drew ?_ | refine blk_alloc ?_ _)); exact BK284.out) hb)
            have n8_ := Aside0.mk (blk_below (g := gb295) (o := .cells #[.slice Ao25 t285.length co25, .slice Ao29 t288.length co29, .slice Ao30 t291.length co30] 31 (0, 0)) (by (with_reducible repeat (first | refine blk_drewN ?_ _ | refine blk_drew ?_ | refine blk_alloc ?_ _)); exact BK295.out) hb)
            have n9_ := Aside0.mk (below_step (by repeat (first | (with_reducible first | exact HB.out | apply below_alloc | apply pw_below_drewN | apply below_drew1 | refine below_set ?_ GE271.out | refine below_set ?_ GE284.out | refine below_set ?_ GE295.out) | exact HB.out)) hb)
            clear HO276
            clear HO279
            clear HO282
            clear HO287
            clear HO290
            clear HO293
            clear BK271
            clear BK284
            clear BK295
            clear HB
            have HO276 := n0_
            have HO279 := n1_
            have HO282 := n2_
            have HO287 := n3_
            have HO290 := n4_
            have HO293 := n5_
            have BK271 := n6_
            have BK284 := n7_
            have BK295 := n8_
            have HB := n9_
            clear n0_ n1_ n2_ n3_ n4_ n5_ n6_ n7_ n8_ n9_
            (try clear hb)
            (try clear hb2)
            (try clear hk)
            (try clear hi)
            refine hK.out _ _ ⟨(blk_cell BK271.out 0).trans rfl, (blk_cell BK271.out 1).trans rfl, (blk_cell BK271.out 2).trans rfl, (blk_cell BK271.out 3).trans rfl, (blk_cell BK271.out 4).trans rfl⟩ (fun hHeld => ?_)
            clear hK K
            refine norm_ (a' := ?_) ?_ ?_
            rotate_left
            · show Act.put _ (some 36) _ = _
              simp only [Act.put, List.setIfInBounds_toArray, List.set_cons_zero, List.set_cons_succ, i64_w, i32_w]
              rfl
            refine one_ (i := 9) (N := some 38) #[true, true, true, true, true, true, true, true, true, true, false, false, false, false, false, false, false, false, false, false, false, false, false] rfl rfl (one_of HT_.out (by kernel_rfl)) (by decide) (fun K hK => ?_)
            refine goes_ Try.func16 (by kernel_rfl) rfl #[.agg #[.slice A0_0 l0_0.length c0_0, .slice A0_1 l0_1.length c0_1, .int .i64 a0_2, .int .i64 a0_3, .int .i64 a0_4]] (by rfl) rfl rfl (by (try simp only [List.map_toArray, List.map_cons, List.map_nil]); first | done | rfl | (simp only [List.length_drop, List.length_take]; rfl)) ?_
            with_reducible refine (crossroadsref17_Count.calls k _ _ l0_0 _ _ l0_1 a0_2 a0_3 a0_4 t299 _ ?side1 ?side2 ?side3 ?side4 A39.out).mono ?_
            (case side1 => repeat (first | exact (Kd.C_below HR0_0.out HB.out) | (with_reducible refine Kd.C_alloc ?_ _) | (with_reducible refine Kd.C_drewN ?_ _) | (with_reducible refine Kd.C_drew ?_)))
            (case side2 => exact HC0_0.out)
            (case side3 => repeat (first | exact (Kd.C_below HR0_1.out HB.out) | (with_reducible refine Kd.C_alloc ?_ _) | (with_reducible refine Kd.C_drewN ?_ _) | (with_reducible refine Kd.C_drew ?_)))
            (case side4 => exact HC0_1.out)
            rintro e w61 ⟨rfl, hb⟩
            refine ⟨_, rfl, ?_⟩
            have n0_ := Aside0.mk (Kd.V_below (by (with_reducible repeat (first | apply Kd.V_alloc | apply Kd.V_drewN | apply Kd.V_drew)); exact HO276.out) hb)
            have n1_ := Aside0.mk (Kd.V_below (by (with_reducible repeat (first | apply Kd.V_alloc | apply Kd.V_drewN | apply Kd.V_drew)); exact HO279.out) hb)
            have n2_ := Aside0.mk (Kd.V_below (by (with_reducible repeat (first | apply Kd.V_alloc | apply Kd.V_drewN | apply Kd.V_drew)); exact HO282.out) hb)
            have n3_ := Aside0.mk (Kd.V_below (by (with_reducible repeat (first | apply Kd.V_alloc | apply Kd.V_drewN | apply Kd.V_drew)); exact HO287.out) hb)
            have n4_ := Aside0.mk (Kd.V_below (by (with_reducible repeat (first | apply Kd.V_alloc | apply Kd.V_drewN | apply Kd.V_drew)); exact HO290.out) hb)
            have n5_ := Aside0.mk (Kd.V_below (by (with_reducible repeat (first | apply Kd.V_alloc | apply Kd.V_drewN | apply Kd.V_drew)); exact HO293.out) hb)
            have n6_ := Aside0.mk (blk_below (g := gb271) (o := .cells #[.slice A0_0 l0_0.length c0_0, .slice A0_1 l0_1.length c0_1, .int .i64 a0_2, .int .i64 a0_3, .int .i64 a0_4] 25 (0, 0)) (by (with_reducible repeat (first | refine blk_drewN ?_ _ | refine blk_drew ?_ | refine blk_alloc ?_ _)); exact BK271.out) hb)
            have n7_ := Aside0.mk (blk_below (g := gb284) (o := .cells #[.slice Ao17 t274.length co17, .slice Ao20 t277.length co20, .slice Ao21 t280.length co21] 31 (0, 0)) (by (with_reducible repeat (first | refine blk_drewN ?_ _ | refine blk_drew ?_ | refine blk_alloc ?_ _)); exact BK284.out) hb)
            have n8_ := Aside0.mk (blk_below (g := gb295) (o := .cells #[.slice Ao25 t285.length co25, .slice Ao29 t288.length co29, .slice Ao30 t291.length co30] 31 (0, 0)) (by (with_reducible repeat (first | refine blk_drewN ?_ _ | refine blk_drew ?_ | refine blk_alloc ?_ _)); exact BK295.out) hb)
            have n9_ := Aside0.mk (below_step (by repeat (first | (with_reducible first | exact HB.out | apply below_alloc | apply pw_below_drewN | apply below_drew1 | refine below_set ?_ GE271.out | refine below_set ?_ GE284.out | refine below_set ?_ GE295.out) | exact HB.out)) hb)
            clear HO276
            clear HO279
            clear HO282
            clear HO287
            clear HO290
            clear HO293
            clear BK271
            clear BK284
            clear BK295
            clear HB
            have HO276 := n0_
            have HO279 := n1_
            have HO282 := n2_
            have HO287 := n3_
            have HO290 := n4_
            have HO293 := n5_
            have BK271 := n6_
            have BK284 := n7_
            have BK295 := n8_
            have HB := n9_
            clear n0_ n1_ n2_ n3_ n4_ n5_ n6_ n7_ n8_ n9_
            (try clear hb)
            (try clear hb2)
            (try clear hk)
            (try clear hi)
            refine hK.out _ _ ⟨(blk_cell BK271.out 0).trans rfl, (blk_cell BK271.out 1).trans rfl, (blk_cell BK271.out 2).trans rfl, (blk_cell BK271.out 3).trans rfl, (blk_cell BK271.out 4).trans rfl⟩ (fun hHeld => ?_)
            clear hK K
            refine norm_ (a' := ?_) ?_ ?_
            rotate_left
            · show Act.put _ (some 38) _ = _
              simp only [Act.put, List.setIfInBounds_toArray, List.set_cons_zero, List.set_cons_succ, i64_w, i32_w]
              rfl
            refine pure_ (i := 10) (N := some 39) (v := ?_) (a' := ?_) #[true, true, true, true, true, true, true, true, true, true, true, false, false, false, false, false, false, false, false, false, false, false, false] rfl rfl (any_of HT_.out (by kernel_rfl)) (fun _ _ _ h => h) (Or.inl ⟨by rfl, ?_⟩) ?_ ?_
            rotate_left
            · intro w'
              go_simp
              with_reducible rfl
            rotate_left
            · simp only [Act.put, List.setIfInBounds_toArray, List.set_cons_zero, List.set_cons_succ, i64_w, i32_w]
              rfl
            refine pure_ (i := 11) (N := some 40) (v := ?_) (a' := ?_) #[true, true, true, true, true, true, true, true, true, true, true, true, false, false, false, false, false, false, false, false, false, false, false] rfl rfl (any_of HT_.out (by kernel_rfl)) (fun _ _ _ h => h) (Or.inl ⟨by rfl, ?_⟩) ?_ ?_
            rotate_left
            · intro w'
              go_simp
              with_reducible rfl
            rotate_left
            · simp only [Act.put, List.setIfInBounds_toArray, List.set_cons_zero, List.set_cons_succ, i64_w, i32_w]
              rfl
            refine pure_ (i := 12) (N := some 41) (v := ?_) (a' := ?_) #[true, true, true, true, true, true, true, true, true, true, true, true, true, false, false, false, false, false, false, false, false, false, false] rfl rfl (any_of HT_.out (by kernel_rfl)) (fun _ _ _ h => h) (Or.inl ⟨by rfl, ?_⟩) ?_ ?_
            rotate_left
            · intro w'
              go_simp
              with_reducible rfl
            rotate_left
            · simp only [Act.put, List.setIfInBounds_toArray, List.set_cons_zero, List.set_cons_succ, i64_w, i32_w]
              rfl
            refine pure_ (i := 13) (N := some 42) (v := undef) (a' := ?_) #[true, true, true, true, true, true, true, true, true, true, true, true, true, true, false, false, false, false, false, false, false, false, false] rfl rfl (any_of HT_.out (by kernel_rfl)) (fun _ _ _ h => h) (Or.inr ⟨by rfl, rfl⟩) ?_ ?_
            rotate_left
            · simp only [Act.put, List.setIfInBounds_toArray, List.set_cons_zero, List.set_cons_succ, i64_w, i32_w]
              rfl
            refine pure_ (i := 14) (N := some 43) (v := undef) (a' := ?_) #[true, true, true, true, true, true, true, true, true, true, true, true, true, true, true, false, false, false, false, false, false, false, false] rfl rfl (any_of HT_.out (by kernel_rfl)) (fun _ _ _ h => h) (Or.inr ⟨by rfl, rfl⟩) ?_ ?_
            rotate_left
            · simp only [Act.put, List.setIfInBounds_toArray, List.set_cons_zero, List.set_cons_succ, i64_w, i32_w]
              rfl
            refine pure_ (i := 15) (N := some 44) (v := undef) (a' := ?_) #[true, true, true, true, true, true, true, true, true, true, true, true, true, true, true, true, false, false, false, false, false, false, false] rfl rfl (any_of HT_.out (by kernel_rfl)) (fun _ _ _ h => h) (Or.inr ⟨by rfl, rfl⟩) ?_ ?_
            rotate_left
            · simp only [Act.put, List.setIfInBounds_toArray, List.set_cons_zero, List.set_cons_succ, i64_w, i32_w]
              rfl
            refine pure_ (i := 16) (N := some 45) (v := ?_) (a' := ?_) #[true, true, true, true, true, true, true, true, true, true, true, true, true, true, true, true, true, false, false, false, false, false, false] rfl rfl (any_of HT_.out (by kernel_rfl)) (fun _ _ _ h => h) (Or.inl ⟨by rfl, ?_⟩) ?_ ?_
            rotate_left
            · intro w'
              go_simp
              with_reducible rfl
            rotate_left
            · simp only [Act.put, List.setIfInBounds_toArray, List.set_cons_zero, List.set_cons_succ, i64_w, i32_w]
              rfl
            refine pure_ (i := 17) (N := some 46) (v := ?_) (a' := ?_) #[true, true, true, true, true, true, true, true, true, true, true, true, true, true, true, true, true, true, false, false, false, false, false] rfl rfl (any_of HT_.out (by kernel_rfl)) (fun _ _ _ h => h) (Or.inl ⟨by rfl, ?_⟩) ?_ ?_
            rotate_left
            · intro w'
              go_simp
              with_reducible rfl
            rotate_left
            · simp only [Act.put, List.setIfInBounds_toArray, List.set_cons_zero, List.set_cons_succ, i64_w, i32_w]
              rfl
            refine pure_ (i := 18) (N := some 47) (v := undef) (a' := ?_) #[true, true, true, true, true, true, true, true, true, true, true, true, true, true, true, true, true, true, true, false, false, false, false] rfl rfl (any_of HT_.out (by kernel_rfl)) (fun _ _ _ h => h) (Or.inr ⟨by rfl, rfl⟩) ?_ ?_
            rotate_left
            · simp only [Act.put, List.setIfInBounds_toArray, List.set_cons_zero, List.set_cons_succ, i64_w, i32_w]
              rfl
            refine pure_ (i := 19) (N := some 48) (v := undef) (a' := ?_) #[true, true, true, true, true, true, true, true, true, true, true, true, true, true, true, true, true, true, true, true, false, false, false] rfl rfl (any_of HT_.out (by kernel_rfl)) (fun _ _ _ h => h) (Or.inr ⟨by rfl, rfl⟩) ?_ ?_
            rotate_left
            · simp only [Act.put, List.setIfInBounds_toArray, List.set_cons_zero, List.set_cons_succ, i64_w, i32_w]
              rfl
            refine pure_ (i := 20) (N := some 49) (v := undef) (a' := ?_) #[true, true, true, true, true, true, true, true, true, true, true, true, true, true, true, true, true, true, true, true, true, false, false] rfl rfl (any_of HT_.out (by kernel_rfl)) (fun _ _ _ h => h) (Or.inr ⟨by rfl, rfl⟩) ?_ ?_
            rotate_left
            · simp only [Act.put, List.setIfInBounds_toArray, List.set_cons_zero, List.set_cons_succ, i64_w, i32_w]
              rfl
            refine pure_ (i := 21) (N := some 50) (v := undef) (a' := ?_) #[true, true, true, true, true, true, true, true, true, true, true, true, true, true, true, true, true, true, true, true, true, true, false] rfl rfl (any_of HT_.out (by kernel_rfl)) (fun _ _ _ h => h) (Or.inr ⟨by rfl, rfl⟩) ?_ ?_
            rotate_left
            · simp only [Act.put, List.setIfInBounds_toArray, List.set_cons_zero, List.set_cons_succ, i64_w, i32_w]
              rfl
            refine pure_ (i := 22) (N := some 51) (v := ?_) (a' := ?_) #[true, true, true, true, true, true, true, true, true, true, true, true, true, true, true, true, true, true, true, true, true, true, true] rfl rfl (any_of HT_.out (by kernel_rfl)) (fun _ _ _ h => h) (Or.inl ⟨by rfl, ?_⟩) ?_ ?_
            rotate_left
            · intro w'
              go_simp
              with_reducible rfl
            rotate_left
            · simp only [Act.put, List.setIfInBounds_toArray, List.set_cons_zero, List.set_cons_succ, i64_w, i32_w]
              rfl
            refine done_ (done_of HT_.out (by kernel_rfl)) ?_
            try go_wp2
            go_meet
            case rel => exact ⟨_, (true), (by first | rfl | (simp; done) | (simp [*]; done)), H', ⟨by first | omega | exact Nat.le_refl _⟩, ⟨by (with_reducible repeat (first | apply Kd.V_alloc | apply Kd.V_drewN | apply Kd.V_drew)); exact HO276.out⟩, ⟨by (with_reducible repeat (first | apply Kd.V_alloc | apply Kd.V_drewN | apply Kd.V_drew)); exact HO279.out⟩, ⟨by (with_reducible repeat (first | apply Kd.V_alloc | apply Kd.V_drewN | apply Kd.V_drew)); exact HO282.out⟩, ⟨by (with_reducible repeat (first | apply Kd.V_alloc | apply Kd.V_drewN | apply Kd.V_drew)); exact HO287.out⟩, ⟨by (with_reducible repeat (first | apply Kd.V_alloc | apply Kd.V_drewN | apply Kd.V_drew)); exact HO290.out⟩, ⟨by (with_reducible repeat (first | apply Kd.V_alloc | apply Kd.V_drewN | apply Kd.V_drew)); exact HO293.out⟩, ⟨by (with_reducible repeat (first | refine blk_drewN ?_ _ | refine blk_drew ?_ | refine blk_alloc ?_ _)); exact BK271.out⟩, ⟨by (with_reducible repeat (first | refine blk_drewN ?_ _ | refine blk_drew ?_ | refine blk_alloc ?_ _)); exact BK284.out⟩, ⟨by (with_reducible repeat (first | refine blk_drewN ?_ _ | refine blk_drew ?_ | refine blk_alloc ?_ _)); exact BK295.out⟩, ⟨by repeat (first | (with_reducible first | exact HB.out | apply below_alloc | apply pw_below_drewN | apply below_drew1 | refine below_set ?_ GE271.out | refine below_set ?_ GE284.out | refine below_set ?_ GE295.out) | exact HB.out)⟩⟩
      case rest =>
        clear HC9
        try clear c1
        try clear p2
        try clear c4
        try clear c13
        try clear c14
        try clear c15
        try clear c16
        try clear c17
        try clear c40
        try clear c40b0
        try clear c40b1
        obtain ⟨kq, x51_8, rfl, HA, HJ8, HO_285000, HO_285001, HO_285002, HO_296000, HO_296001, HO_296002, BK271, BK284, BK295, HB⟩ := hcut
        cases kq with
        | zero => exact absurd HA.out (by simp [crossroadslaw17_ClassCounts.j0])
        | succ kj8 =>
          have H := HA.out
          clear HA
          simp only [crossroadslaw17_ClassCounts.j0] at H
          by_cases c62 : x51_8 = true
          · subst c62
            have H1 : (none) = some r := by rw [if_pos rfl] at H; exact H
            clear H
            have H := H1
            clear H1
            exact absurd H (by simp)
          · replace c62 := Bool.eq_false_iff.mpr c62
            subst c62
            have H1 : ((class_Files.f kj8 l0_0 l0_1 a0_2 a0_3 a0_4).bind fun t301 => (crossroadslaw17_ClassCounts.l0 kj8 t283 0 t301 0 l0_0 l0_1 a0_2 a0_3 a0_4 t274 t277 t280)) = some r := by rw [if_neg (show ¬ (false = true) by decide)] at H; exact H
            clear H
            have H := H1
            clear H1
            replace H := Option.bind_eq_some_iff.mp H
            obtain ⟨t301, A630, H⟩ := H
            replace H : (crossroadslaw17_ClassCounts.l0 kj8 t283 0 t301 0 l0_0 l0_1 a0_2 a0_3 a0_4 t274 t277 t280) = some r := H
            have A63 := Aside0.mk A630
            clear A630
            have H' := Aside0.mk H
            clear H
            have hnb64 := NB271_284.out
            have hnc64 := NB284_271.out
            have hnb65 := NB271_295.out
            have hnc65 := NB295_271.out
            have hcz66_0 : wc.cell? ⟨gb271, 0, none⟩ = some (.slice A0_0 l0_0.length c0_0) := (blk_cell BK271.out 0).trans rfl
            have hcz66_1 : wc.cell? ⟨gb271, 1, none⟩ = some (.slice A0_1 l0_1.length c0_1) := (blk_cell BK271.out 1).trans rfl
            have hcz66_2 : wc.cell? ⟨gb271, 2, none⟩ = some (.int .i64 a0_2) := (blk_cell BK271.out 2).trans rfl
            have hcz66_3 : wc.cell? ⟨gb271, 3, none⟩ = some (.int .i64 a0_3) := (blk_cell BK271.out 3).trans rfl
            have hcz66_4 : wc.cell? ⟨gb271, 4, none⟩ = some (.int .i64 a0_4) := (blk_cell BK271.out 4).trans rfl
            have hfz66_0 := blk_frozen BK271.out 0
            have hfz66_1 := blk_frozen BK271.out 1
            have hfz66_2 := blk_frozen BK271.out 2
            have hfz66_3 := blk_frozen BK271.out 3
            have hfz66_4 := blk_frozen BK271.out 4
            go_wp2_with (first | ((with_reducible refine gate_callee (f := 18) rfl ?_); refine goesL_ (some 53) rfl rfl Try.func18 (by kernel_rfl) rfl #[.agg #[.slice A0_0 l0_0.length c0_0, .slice A0_1 l0_1.length c0_1, .int .i64 a0_2, .int .i64 a0_3, .int .i64 a0_4]] rfl (by (try simp only [List.map_toArray, List.map_cons, List.map_nil]); first | done | rfl | (simp only [List.length_drop, List.length_take]; rfl)) ?_; (with_reducible refine (class_Files.calls kj8 _ _ l0_0 _ _ l0_1 a0_2 a0_3 a0_4 t301 _ ?side1 ?side2 ?side3 ?side4 A63.out).mono ?_); (case side1 => repeat (first | exact (Kd.C_below HR0_0.out HB.out) | (with_reducible refine Kd.C_alloc ?_ _) | (with_reducible refine Kd.C_drewN ?_ _) | (with_reducible refine Kd.C_drew ?_))); (case side2 => exact HC0_0.out); (case side3 => repeat (first | exact (Kd.C_below HR0_1.out HB.out) | (with_reducible refine Kd.C_alloc ?_ _) | (with_reducible refine Kd.C_drewN ?_ _) | (with_reducible refine Kd.C_drew ?_))); (case side4 => exact HC0_1.out); rintro e w67 ⟨v302, rfl, ho0, hb⟩; refine ⟨_, rfl, ?_⟩; have n0_ := Aside0.mk (Kd.V_elder' (by (with_reducible repeat (first | apply Kd.V_alloc | apply Kd.V_drewN | apply Kd.V_drew)); exact HO_285000.out) (Kd.R_base ho0) hb); have n1_ := Aside0.mk (Kd.V_elder' (by (with_reducible repeat (first | apply Kd.V_alloc | apply Kd.V_drewN | apply Kd.V_drew)); exact HO_285001.out) (Kd.R_base ho0) hb); have n2_ := Aside0.mk (Kd.V_elder' (by (with_reducible repeat (first | apply Kd.V_alloc | apply Kd.V_drewN | apply Kd.V_drew)); exact HO_285002.out) (Kd.R_base ho0) hb); have n3_ := Aside0.mk (Kd.V_elder' (by (with_reducible repeat (first | apply Kd.V_alloc | apply Kd.V_drewN | apply Kd.V_drew)); exact HO_296000.out) (Kd.R_base ho0) hb); have n4_ := Aside0.mk (Kd.V_elder' (by (with_reducible repeat (first | apply Kd.V_alloc | apply Kd.V_drewN | apply Kd.V_drew)); exact HO_296001.out) (Kd.R_base ho0) hb); have n5_ := Aside0.mk (Kd.V_elder' (by (with_reducible repeat (first | apply Kd.V_alloc | apply Kd.V_drewN | apply Kd.V_drew)); exact HO_296002.out) (Kd.R_base ho0) hb); have n6_ := Aside0.mk (Kd.R_lower ho0 (below_size (by repeat (first | (with_reducible first | exact HB.out | apply below_alloc | apply pw_below_drewN | apply below_drew1 | refine below_set ?_ GE271.out | refine below_set ?_ GE284.out | refine below_set ?_ GE295.out) | exact HB.out)))); have n7_ := Aside0.mk (blk_below (g := gb271) (o := .cells #[.slice A0_0 l0_0.length c0_0, .slice A0_1 l0_1.length c0_1, .int .i64 a0_2, .int .i64 a0_3, .int .i64 a0_4] 25 (0, 0)) (by (with_reducible repeat (first | refine blk_drewN ?_ _ | refine blk_drew ?_ | refine blk_alloc ?_ _)); exact BK271.out) hb); have n8_ := Aside0.mk (blk_below (g := gb284) (o := .cells #[.slice Ao17 t274.length co17, .slice Ao20 t277.length co20, .slice Ao21 t280.length co21] 31 (0, 0)) (by (with_reducible repeat (first | refine blk_drewN ?_ _ | refine blk_drew ?_ | refine blk_alloc ?_ _)); exact BK284.out) hb); have n9_ := Aside0.mk (blk_below (g := gb295) (o := .cells #[.slice Ao25 t285.length co25, .slice Ao29 t288.length co29, .slice Ao30 t291.length co30] 31 (0, 0)) (by (with_reducible repeat (first | refine blk_drewN ?_ _ | refine blk_drew ?_ | refine blk_alloc ?_ _)); exact BK295.out) hb); have n10_ := Aside0.mk (below_step (by repeat (first | (with_reducible first | exact HB.out | apply below_alloc | apply pw_below_drewN | apply below_drew1 | refine below_set ?_ GE271.out | refine below_set ?_ GE284.out | refine below_set ?_ GE295.out) | exact HB.out)) hb); clear HO_285000; clear HO_285001; clear HO_285002; clear HO_296000; clear HO_296001; clear HO_296002; clear BK271; clear BK284; clear BK295; clear HB; have HO_285000 := n0_; have HO_285001 := n1_; have HO_285002 := n2_; have HO_296000 := n3_; have HO_296001 := n4_; have HO_296002 := n5_; have HO303 := n6_; have BK271 := n7_; have BK284 := n8_; have BK295 := n9_; have HB := n10_; clear n0_ n1_ n2_ n3_ n4_ n5_ n6_ n7_ n8_ n9_ n10_; (try clear hb); (try clear hb2); (try clear hk); (try clear hi); (try clear ho0)))
            go_loopg [9, 11] kj8 (fun kq v9 v11 w' => ∃ (x9_2 : Int) (x11_2 : Int), v9 = .int .i64 x9_2 ∧ v11 = .int .i64 x11_2 ∧ Aside0 (crossroadslaw17_ClassCounts.l0 kq t283 x9_2 t301 x11_2 l0_0 l0_1 a0_2 a0_3 a0_4 t274 t277 t280 = some r) ∧ Aside0 (kq ≤ kj8) ∧ Aside0 (Kd.R (Kd.int .i64) 3 w' w.heap.size (fun _ => True) v302 t301) ∧ Aside0 (Kd.V (Kd.slice 5 (Kd.int .u8)) 42 w' w.heap.size (fun k_ => some k_ ≠ (v302 : Value).ownBlock ∧ k_ ≠ gb271 ∧ k_ ≠ gb284 ∧ k_ ≠ gb295) (.slice Ao17 t274.length co17) t274) ∧ Aside0 (Kd.V (Kd.slice 5 (Kd.int .u8)) 42 w' w.heap.size (fun k_ => some k_ ≠ (v302 : Value).ownBlock ∧ k_ ≠ gb271 ∧ k_ ≠ gb284 ∧ k_ ≠ gb295) (.slice Ao20 t277.length co20) t277) ∧ Aside0 (Kd.V Kd.bool 4 w' w.heap.size (fun k_ => some k_ ≠ (v302 : Value).ownBlock ∧ k_ ≠ gb271 ∧ k_ ≠ gb284 ∧ k_ ≠ gb295) (.slice Ao21 t280.length co21) t280) ∧ Aside0 (Kd.V (Kd.slice 5 (Kd.int .u8)) 42 w' w.heap.size (fun k_ => some k_ ≠ (v302 : Value).ownBlock ∧ k_ ≠ gb271 ∧ k_ ≠ gb284 ∧ k_ ≠ gb295) (.slice Ao25 t285.length co25) t285) ∧ Aside0 (Kd.V (Kd.slice 5 (Kd.int .u8)) 42 w' w.heap.size (fun k_ => some k_ ≠ (v302 : Value).ownBlock ∧ k_ ≠ gb271 ∧ k_ ≠ gb284 ∧ k_ ≠ gb295) (.slice Ao29 t288.length co29) t288) ∧ Aside0 (Kd.V Kd.bool 4 w' w.heap.size (fun k_ => some k_ ≠ (v302 : Value).ownBlock ∧ k_ ≠ gb271 ∧ k_ ≠ gb284 ∧ k_ ≠ gb295) (.slice Ao30 t291.length co30) t291) ∧ Aside0 (w'.heap[gb271]? = some (.cells #[(.slice A0_0 l0_0.length c0_0), (.slice A0_1 l0_1.length c0_1), .int .i64 a0_2, .int .i64 a0_3, .int .i64 a0_4] 25 (0, 0))) ∧ Aside0 (w'.heap[gb284]? = some (.cells #[(.slice Ao17 t274.length co17), (.slice Ao20 t277.length co20), (.slice Ao21 t280.length co21)] 31 (0, 0))) ∧ Aside0 (w'.heap[gb295]? = some (.cells #[(.slice Ao25 t285.length co25), (.slice Ao29 t288.length co29), (.slice Ao30 t291.length co30)] 31 (0, 0))) ∧ Aside0 (Below w.heap.size w w'))
            case atStart => exact ⟨(0), (0), (by first | rfl | (simp; done) | (simp [*]; done)), (by first | rfl | (simp; done) | (simp [*]; done)), H', ⟨Nat.le_refl _⟩, ⟨by (with_reducible repeat (first | apply Kd.R_alloc | apply Kd.R_drewN | apply Kd.R_drew)); exact HO303.out⟩, ⟨by (with_reducible repeat (first | apply Kd.V_alloc | apply Kd.V_drewN | apply Kd.V_drew)); exact Kd.V_mono HO_285000.out (fun _ hk => ⟨hk.2, ⟨hk.1.1, ⟨hk.1.2.1, hk.1.2.2⟩⟩⟩)⟩, ⟨by (with_reducible repeat (first | apply Kd.V_alloc | apply Kd.V_drewN | apply Kd.V_drew)); exact Kd.V_mono HO_285001.out (fun _ hk => ⟨hk.2, ⟨hk.1.1, ⟨hk.1.2.1, hk.1.2.2⟩⟩⟩)⟩, ⟨by (with_reducible repeat (first | apply Kd.V_alloc | apply Kd.V_drewN | apply Kd.V_drew)); exact Kd.V_mono HO_285002.out (fun _ hk => ⟨hk.2, ⟨hk.1.1, ⟨hk.1.2.1, hk.1.2.2⟩⟩⟩)⟩, ⟨by (with_reducible repeat (first | apply Kd.V_alloc | apply Kd.V_drewN | apply Kd.V_drew)); exact Kd.V_mono HO_296000.out (fun _ hk => ⟨hk.2, ⟨hk.1.1, ⟨hk.1.2.1, hk.1.2.2⟩⟩⟩)⟩, ⟨by (with_reducible repeat (first | apply Kd.V_alloc | apply Kd.V_drewN | apply Kd.V_drew)); exact Kd.V_mono HO_296001.out (fun _ hk => ⟨hk.2, ⟨hk.1.1, ⟨hk.1.2.1, hk.1.2.2⟩⟩⟩)⟩, ⟨by (with_reducible repeat (first | apply Kd.V_alloc | apply Kd.V_drewN | apply Kd.V_drew)); exact Kd.V_mono HO_296002.out (fun _ hk => ⟨hk.2, ⟨hk.1.1, ⟨hk.1.2.1, hk.1.2.2⟩⟩⟩)⟩, ⟨by (with_reducible repeat (first | refine blk_drewN ?_ _ | refine blk_drew ?_ | refine blk_alloc ?_ _)); exact BK271.out⟩, ⟨by (with_reducible repeat (first | refine blk_drewN ?_ _ | refine blk_drew ?_ | refine blk_alloc ?_ _)); exact BK284.out⟩, ⟨by (with_reducible repeat (first | refine blk_drewN ?_ _ | refine blk_drew ?_ | refine blk_alloc ?_ _)); exact BK295.out⟩, ⟨by repeat (first | (with_reducible first | exact HB.out | apply below_alloc | apply pw_below_drewN | apply below_drew1 | refine below_set ?_ GE271.out | refine below_set ?_ GE284.out | refine below_set ?_ GE295.out) | exact HB.out)⟩⟩
            case round =>
              clear H'
              try clear c1
              try clear p2
              try clear c4
              try clear c6
              try clear c13
              try clear c14
              try clear c15
              try clear c16
              try clear c17
              try clear c18
              try clear c40
              try clear c40b0
              try clear c40b1
              try clear c62
              try clear c64
              try clear c65
              try clear hcz66_0
              try clear hcz66_1
              try clear hcz66_2
              try clear hcz66_3
              try clear hcz66_4
              try clear hfz66_0
              try clear hfz66_1
              try clear hfz66_2
              try clear hfz66_3
              try clear hfz66_4
              try clear p2
              obtain ⟨x9_2, x11_2, rfl, rfl, HA, HK2, HO_10, HO_285000, HO_285001, HO_285002, HO_296000, HO_296001, HO_296002, BK271, BK284, BK295, HB⟩ := hrel
              cases gk with
              | zero => exact absurd HA.out (by simp [crossroadslaw17_ClassCounts.l0])
              | succ k2 =>
                have H := HA.out
                clear HA
                simp only [crossroadslaw17_ClassCounts.l0] at H
                by_cases c68 : x11_2 < (l0_0.length : Int)
                · rw [if_pos c68] at H
                  have c68b0 : decide (x11_2 < (l0_0.length : Int)) = true := decide_eq_true c68
                  clear c68
                  by_cases c69 : 0 ≤ x11_2
                  · rw [if_pos c69] at H
                    have c69b0 : decide (0 ≤ x11_2) = true := decide_eq_true c69
                    clear c69
                    obtain ⟨bq70, hbq70⟩ : ∃ b_ : Bool, b_ = ((rd_T38 l0_0 x11_2).f1) := ⟨_, rfl⟩
                    replace H : (if bq70 = true then (crossroadslaw17_ClassCounts.l0 k2 t283 x9_2 t301 (wrap64 (x11_2 + 1)) l0_0 l0_1 a0_2 a0_3 a0_4 t274 t277 t280) else (if x9_2 ≥ (t301.length : Int) then (none) else (if 0 ≤ x9_2 then (if x9_2 < (t301.length : Int) then (if (rd t301 x9_2) = x11_2 then (crossroadslaw17_ClassCounts.l0 k2 t283 (wrap64 (x9_2 + 1)) t301 (wrap64 (x11_2 + 1)) l0_0 l0_1 a0_2 a0_3 a0_4 t274 t277 t280) else (none)) else (none)) else (none)))) = some r := by rw [← hbq70] at H; exact H
                    have Nbq70 := Aside0.mk hbq70
                    clear hbq70
                    by_cases c71 : bq70 = true
                    · subst c71
                      have H1 : (crossroadslaw17_ClassCounts.l0 k2 t283 x9_2 t301 (wrap64 (x11_2 + 1)) l0_0 l0_1 a0_2 a0_3 a0_4 t274 t277 t280) = some r := by rw [if_pos rfl] at H; exact H
                      clear H
                      have H := H1
                      clear H1
                      have H' := Aside0.mk H
                      clear H
                      have hnb72 := NB271_284.out
                      have hnc72 := NB284_271.out
                      have hnb73 := NB271_295.out
                      have hnc73 := NB295_271.out
                      have hcz74_0 : wr.cell? ⟨gb271, 0, none⟩ = some (.slice A0_0 l0_0.length c0_0) := (blk_cell BK271.out 0).trans rfl
                      have hcz74_1 : wr.cell? ⟨gb271, 1, none⟩ = some (.slice A0_1 l0_1.length c0_1) := (blk_cell BK271.out 1).trans rfl
                      have hcz74_2 : wr.cell? ⟨gb271, 2, none⟩ = some (.int .i64 a0_2) := (blk_cell BK271.out 2).trans rfl
                      have hcz74_3 : wr.cell? ⟨gb271, 3, none⟩ = some (.int .i64 a0_3) := (blk_cell BK271.out 3).trans rfl
                      have hcz74_4 : wr.cell? ⟨gb271, 4, none⟩ = some (.int .i64 a0_4) := (blk_cell BK271.out 4).trans rfl
                      have hfz74_0 := blk_frozen BK271.out 0
                      have hfz74_1 := blk_frozen BK271.out 1
                      have hfz74_2 := blk_frozen BK271.out 2
                      have hfz74_3 := blk_frozen BK271.out 3
                      have hfz74_4 := blk_frozen BK271.out 4
                      have p305 : 0 ≤ (x11_2 : Int) := of_decide_eq_true (by first | (with_reducible assumption) | assumption)
                      have q305 : x11_2 < (l0_0.length : Int) := of_decide_eq_true (by first | (with_reducible assumption) | assumption)
                      obtain ⟨ad305, e305, hx305_0, hx305_1, hx305_2⟩ := at_T38 HR0_0.out x11_2 p305 q305
                      (try rw [← Nbq70.out] at hx305_1)
                      cases e305
                      replace hx305_0 := (HB.out.cell (World.block_lt_of_cell? w _ hx305_0)).trans hx305_0
                      replace hx305_1 := (HB.out.cell (World.block_lt_of_cell? w _ hx305_1)).trans hx305_1
                      replace hx305_2 := (HB.out.cell (World.block_lt_of_cell? w _ hx305_2)).trans hx305_2
                      replace p305 := eq_true p305
                      replace q305 := eq_true q305
                      go_wp2
                      go_roundg k2
                      case measure => have := HJ8.out; have := HK2.out; omega
                      case rel => exact ⟨(x9_2), (wrap64 (x11_2 + 1)), (by first | rfl | (simp; done) | (simp [*]; done)), (by first | rfl | (simp; done) | (simp [*]; done)), H', ⟨by have := HJ8.out; have := HK2.out; omega⟩, ⟨by (with_reducible repeat (first | apply Kd.R_alloc | apply Kd.R_drewN | apply Kd.R_drew)); exact HO_10.out⟩, ⟨by (with_reducible repeat (first | apply Kd.V_alloc | apply Kd.V_drewN | apply Kd.V_drew)); exact HO_285000.out⟩, ⟨by (with_reducible repeat (first | apply Kd.V_alloc | apply Kd.V_drewN | apply Kd.V_drew)); exact HO_285001.out⟩, ⟨by (with_reducible repeat (first | apply Kd.V_alloc | apply Kd.V_drewN | apply Kd.V_drew)); exact HO_285002.out⟩, ⟨by (with_reducible repeat (first | apply Kd.V_alloc | apply Kd.V_drewN | apply Kd.V_drew)); exact HO_296000.out⟩, ⟨by (with_reducible repeat (first | apply Kd.V_alloc | apply Kd.V_drewN | apply Kd.V_drew)); exact HO_296001.out⟩, ⟨by (with_reducible repeat (first | apply Kd.V_alloc | apply Kd.V_drewN | apply Kd.V_drew)); exact HO_296002.out⟩, ⟨by (with_reducible repeat (first | refine blk_drewN ?_ _ | refine blk_drew ?_ | refine blk_alloc ?_ _)); exact BK271.out⟩, ⟨by (with_reducible repeat (first | refine blk_drewN ?_ _ | refine blk_drew ?_ | refine blk_alloc ?_ _)); exact BK284.out⟩, ⟨by (with_reducible repeat (first | refine blk_drewN ?_ _ | refine blk_drew ?_ | refine blk_alloc ?_ _)); exact BK295.out⟩, ⟨by repeat (first | (with_reducible first | exact HB.out | apply below_alloc | apply pw_below_drewN | apply below_drew1 | refine below_set ?_ GE271.out | refine below_set ?_ GE284.out | refine below_set ?_ GE295.out) | exact HB.out)⟩⟩
                    · replace c71 := Bool.eq_false_iff.mpr c71
                      subst c71
                      have H1 : (if x9_2 ≥ (t301.length : Int) then (none) else (if 0 ≤ x9_2 then (if x9_2 < (t301.length : Int) then (if (rd t301 x9_2) = x11_2 then (crossroadslaw17_ClassCounts.l0 k2 t283 (wrap64 (x9_2 + 1)) t301 (wrap64 (x11_2 + 1)) l0_0 l0_1 a0_2 a0_3 a0_4 t274 t277 t280) else (none)) else (none)) else (none))) = some r := by rw [if_neg (show ¬ (false = true) by decide)] at H; exact H
                      clear H
                      have H := H1
                      clear H1
                      by_cases c75 : x9_2 ≥ (t301.length : Int)
                      · rw [if_pos c75] at H
                        exact absurd H (by simp)
                      · rw [if_neg c75] at H
                        have c75b0 : decide ((t301.length : Int) ≤ x9_2) = false := decide_eq_false c75
                        clear c75
                        by_cases c76 : 0 ≤ x9_2
                        · rw [if_pos c76] at H
                          have c76b0 : decide (0 ≤ x9_2) = true := decide_eq_true c76
                          clear c76
                          by_cases c77 : x9_2 < (t301.length : Int)
                          · rw [if_pos c77] at H
                            have c77b0 : decide (x9_2 < (t301.length : Int)) = true := decide_eq_true c77
                            clear c77
                            by_cases c78 : (rd t301 x9_2) = x11_2
                            · rw [if_pos c78] at H
                              have c78b0 : ((rd t301 x9_2) == x11_2) = true := beq_iff_eq.mpr c78
                              have c78b1 : ((rd t301 x9_2) != x11_2) = false := bne_eq_false_iff_eq.mpr c78
                              clear c78
                              have H' := Aside0.mk H
                              clear H
                              have hnb79 := NB271_284.out
                              have hnc79 := NB284_271.out
                              have hnb80 := NB271_295.out
                              have hnc80 := NB295_271.out
                              have hcz81_0 : wr.cell? ⟨gb271, 0, none⟩ = some (.slice A0_0 l0_0.length c0_0) := (blk_cell BK271.out 0).trans rfl
                              have hcz81_1 : wr.cell? ⟨gb271, 1, none⟩ = some (.slice A0_1 l0_1.length c0_1) := (blk_cell BK271.out 1).trans rfl
                              have hcz81_2 : wr.cell? ⟨gb271, 2, none⟩ = some (.int .i64 a0_2) := (blk_cell BK271.out 2).trans rfl
                              have hcz81_3 : wr.cell? ⟨gb271, 3, none⟩ = some (.int .i64 a0_3) := (blk_cell BK271.out 3).trans rfl
                              have hcz81_4 : wr.cell? ⟨gb271, 4, none⟩ = some (.int .i64 a0_4) := (blk_cell BK271.out 4).trans rfl
                              have hfz81_0 := blk_frozen BK271.out 0
                              have hfz81_1 := blk_frozen BK271.out 1
                              have hfz81_2 := blk_frozen BK271.out 2
                              have hfz81_3 := blk_frozen BK271.out 3
                              have hfz81_4 := blk_frozen BK271.out 4
                              have p305 : 0 ≤ (x11_2 : Int) := of_decide_eq_true (by first | (with_reducible assumption) | assumption)
                              have q305 : x11_2 < (l0_0.length : Int) := of_decide_eq_true (by first | (with_reducible assumption) | assumption)
                              obtain ⟨ad305, e305, hx305_0, hx305_1, hx305_2⟩ := at_T38 HR0_0.out x11_2 p305 q305
                              (try rw [← Nbq70.out] at hx305_1)
                              cases e305
                              replace hx305_0 := (HB.out.cell (World.block_lt_of_cell? w _ hx305_0)).trans hx305_0
                              replace hx305_1 := (HB.out.cell (World.block_lt_of_cell? w _ hx305_1)).trans hx305_1
                              replace hx305_2 := (HB.out.cell (World.block_lt_of_cell? w _ hx305_2)).trans hx305_2
                              replace p305 := eq_true p305
                              replace q305 := eq_true q305
                              obtain ⟨Ao82, co82, eo82⟩ := Kd.R_slice HO_10.out
                              subst eo82
                              have p306 : 0 ≤ (x9_2 : Int) := of_decide_eq_true (by first | (with_reducible assumption) | assumption)
                              have q306 : x9_2 < (t301.length : Int) := of_decide_eq_true (by first | (with_reducible assumption) | assumption)
                              (try (obtain ⟨Aoo306, coo306, eoo306⟩ := Kd.R_slice HO_10.out; subst eoo306))
                              obtain ⟨ad306, e306, hx306_0⟩ := Kd.at_int (Kd.R_reads' HO_10.out).2.2 x9_2 p306 q306
                              cases e306
                              replace p306 := eq_true p306
                              replace q306 := eq_true q306
                              go_wp2
                              go_roundg k2
                              case measure => have := HJ8.out; have := HK2.out; omega
                              case rel => exact ⟨(wrap64 (x9_2 + 1)), (wrap64 (x11_2 + 1)), (by first | rfl | (simp; done) | (simp [*]; done)), (by first | rfl | (simp; done) | (simp [*]; done)), H', ⟨by have := HJ8.out; have := HK2.out; omega⟩, ⟨by (with_reducible repeat (first | apply Kd.R_alloc | apply Kd.R_drewN | apply Kd.R_drew)); exact HO_10.out⟩, ⟨by (with_reducible repeat (first | apply Kd.V_alloc | apply Kd.V_drewN | apply Kd.V_drew)); exact HO_285000.out⟩, ⟨by (with_reducible repeat (first | apply Kd.V_alloc | apply Kd.V_drewN | apply Kd.V_drew)); exact HO_285001.out⟩, ⟨by (with_reducible repeat (first | apply Kd.V_alloc | apply Kd.V_drewN | apply Kd.V_drew)); exact HO_285002.out⟩, ⟨by (with_reducible repeat (first | apply Kd.V_alloc | apply Kd.V_drewN | apply Kd.V_drew)); exact HO_296000.out⟩, ⟨by (with_reducible repeat (first | apply Kd.V_alloc | apply Kd.V_drewN | apply Kd.V_drew)); exact HO_296001.out⟩, ⟨by (with_reducible repeat (first | apply Kd.V_alloc | apply Kd.V_drewN | apply Kd.V_drew)); exact HO_296002.out⟩, ⟨by (with_reducible repeat (first | refine blk_drewN ?_ _ | refine blk_drew ?_ | refine blk_alloc ?_ _)); exact BK271.out⟩, ⟨by (with_reducible repeat (first | refine blk_drewN ?_ _ | refine blk_drew ?_ | refine blk_alloc ?_ _)); exact BK284.out⟩, ⟨by (with_reducible repeat (first | refine blk_drewN ?_ _ | refine blk_drew ?_ | refine blk_alloc ?_ _)); exact BK295.out⟩, ⟨by repeat (first | (with_reducible first | exact HB.out | apply below_alloc | apply pw_below_drewN | apply below_drew1 | refine below_set ?_ GE271.out | refine below_set ?_ GE284.out | refine below_set ?_ GE295.out) | exact HB.out)⟩⟩
                            · rw [if_neg c78] at H
                              exact absurd H (by simp)
                          · rw [if_neg c77] at H
                            exact absurd H (by simp)
                        · rw [if_neg c76] at H
                          exact absurd H (by simp)
                  · rw [if_neg c69] at H
                    exact absurd H (by simp)
                · rw [if_neg c68] at H
                  have c68b0 : decide (x11_2 < (l0_0.length : Int)) = false := decide_eq_false c68
                  clear c68
                  by_cases c83 : x9_2 = (t301.length : Int)
                  · rw [if_pos c83] at H
                    have c83b0 : (x9_2 == (t301.length : Int)) = true := beq_iff_eq.mpr c83
                    have c83b1 : (x9_2 != (t301.length : Int)) = false := bne_eq_false_iff_eq.mpr c83
                    clear c83
                    by_cases c84 : t283 = true
                    · subst c84
                      have H1 : ((class_Has.f k2 l0_0 l0_1 a0_2 a0_3 a0_4 t274 t277 t280).bind fun t304 => (some t304)) = some r := by rw [if_pos rfl] at H; exact H
                      clear H
                      have H := H1
                      clear H1
                      replace H := Option.bind_eq_some_iff.mp H
                      obtain ⟨t304, A850, H⟩ := H
                      replace H : (some t304) = some r := H
                      have A85 := Aside0.mk A850
                      clear A850
                      obtain rfl := Option.some.inj H
                      have hnb86 := NB271_284.out
                      have hnc86 := NB284_271.out
                      have hnb87 := NB271_295.out
                      have hnc87 := NB295_271.out
                      have hcz88_0 : wr.cell? ⟨gb271, 0, none⟩ = some (.slice A0_0 l0_0.length c0_0) := (blk_cell BK271.out 0).trans rfl
                      have hcz88_1 : wr.cell? ⟨gb271, 1, none⟩ = some (.slice A0_1 l0_1.length c0_1) := (blk_cell BK271.out 1).trans rfl
                      have hcz88_2 : wr.cell? ⟨gb271, 2, none⟩ = some (.int .i64 a0_2) := (blk_cell BK271.out 2).trans rfl
                      have hcz88_3 : wr.cell? ⟨gb271, 3, none⟩ = some (.int .i64 a0_3) := (blk_cell BK271.out 3).trans rfl
                      have hcz88_4 : wr.cell? ⟨gb271, 4, none⟩ = some (.int .i64 a0_4) := (blk_cell BK271.out 4).trans rfl
                      have hfz88_0 := blk_frozen BK271.out 0
                      have hfz88_1 := blk_frozen BK271.out 1
                      have hfz88_2 := blk_frozen BK271.out 2
                      have hfz88_3 := blk_frozen BK271.out 3
                      have hfz88_4 := blk_frozen BK271.out 4
                      obtain ⟨Ao89, co89, eo89⟩ := Kd.R_slice HO_10.out
                      subst eo89
                      have hnb90 := NB284_295.out
                      have hnc90 := NB295_284.out
                      have hcz91_0 : wr.cell? ⟨gb284, 0, none⟩ = some (.slice Ao17 t274.length co17) := (blk_cell BK284.out 0).trans rfl
                      have hcz91_1 : wr.cell? ⟨gb284, 1, none⟩ = some (.slice Ao20 t277.length co20) := (blk_cell BK284.out 1).trans rfl
                      have hcz91_2 : wr.cell? ⟨gb284, 2, none⟩ = some (.slice Ao21 t280.length co21) := (blk_cell BK284.out 2).trans rfl
                      have hfz91_0 := blk_frozen BK284.out 0
                      have hfz91_1 := blk_frozen BK284.out 1
                      have hfz91_2 := blk_frozen BK284.out 2
                      go_wp2_with (first | (go_at_call 19; (with_reducible refine (class_Has.calls k2 _ _ l0_0 _ _ l0_1 a0_2 a0_3 a0_4 _ _ t274 _ _ t277 _ _ t280 t304 _ ?side1 ?side2 ?side3 ?side4 ?side5 ?side6 ?side7 ?side8 ?side9 ?side10 A85.out).mono ?_); (case side1 => repeat (first | exact (Kd.C_below HR0_0.out HB.out) | (with_reducible refine Kd.C_alloc ?_ _) | (with_reducible refine Kd.C_drewN ?_ _) | (with_reducible refine Kd.C_drew ?_))); (case side2 => exact HC0_0.out); (case side3 => repeat (first | exact (Kd.C_below HR0_1.out HB.out) | (with_reducible refine Kd.C_alloc ?_ _) | (with_reducible refine Kd.C_drewN ?_ _) | (with_reducible refine Kd.C_drew ?_))); (case side4 => exact HC0_1.out); (case side5 => repeat (first | exact (Kd.V_reads' HO_285000.out).2.2 | (with_reducible refine Kd.C_alloc ?_ _) | (with_reducible refine Kd.C_drewN ?_ _) | (with_reducible refine Kd.C_drew ?_))); (case side6 => exact (Kd.V_reads' HO_285000.out).2.1); (case side7 => repeat (first | exact (Kd.V_reads' HO_285001.out).2.2 | (with_reducible refine Kd.C_alloc ?_ _) | (with_reducible refine Kd.C_drewN ?_ _) | (with_reducible refine Kd.C_drew ?_))); (case side8 => exact (Kd.V_reads' HO_285001.out).2.1); (case side9 => repeat (first | exact (Kd.V_reads' HO_285002.out).2.2 | (with_reducible refine Kd.C_alloc ?_ _) | (with_reducible refine Kd.C_drewN ?_ _) | (with_reducible refine Kd.C_drew ?_))); (case side10 => exact (Kd.V_reads' HO_285002.out).2.1); rintro e w92 ⟨rfl, hb⟩; have n0_ := Aside0.mk (Kd.R_below (by (with_reducible repeat (first | apply Kd.R_alloc | apply Kd.R_drewN | apply Kd.R_drew)); exact HO_10.out) hb); have n1_ := Aside0.mk (Kd.V_below (by (with_reducible repeat (first | apply Kd.V_alloc | apply Kd.V_drewN | apply Kd.V_drew)); exact HO_285000.out) hb); have n2_ := Aside0.mk (Kd.V_below (by (with_reducible repeat (first | apply Kd.V_alloc | apply Kd.V_drewN | apply Kd.V_drew)); exact HO_285001.out) hb); have n3_ := Aside0.mk (Kd.V_below (by (with_reducible repeat (first | apply Kd.V_alloc | apply Kd.V_drewN | apply Kd.V_drew)); exact HO_285002.out) hb); have n4_ := Aside0.mk (Kd.V_below (by (with_reducible repeat (first | apply Kd.V_alloc | apply Kd.V_drewN | apply Kd.V_drew)); exact HO_296000.out) hb); have n5_ := Aside0.mk (Kd.V_below (by (with_reducible repeat (first | apply Kd.V_alloc | apply Kd.V_drewN | apply Kd.V_drew)); exact HO_296001.out) hb); have n6_ := Aside0.mk (Kd.V_below (by (with_reducible repeat (first | apply Kd.V_alloc | apply Kd.V_drewN | apply Kd.V_drew)); exact HO_296002.out) hb); have n7_ := Aside0.mk (blk_below (g := gb271) (o := .cells #[.slice A0_0 l0_0.length c0_0, .slice A0_1 l0_1.length c0_1, .int .i64 a0_2, .int .i64 a0_3, .int .i64 a0_4] 25 (0, 0)) (by (with_reducible repeat (first | refine blk_drewN ?_ _ | refine blk_drew ?_ | refine blk_alloc ?_ _)); exact BK271.out) hb); have n8_ := Aside0.mk (blk_below (g := gb284) (o := .cells #[.slice Ao17 t274.length co17, .slice Ao20 t277.length co20, .slice Ao21 t280.length co21] 31 (0, 0)) (by (with_reducible repeat (first | refine blk_drewN ?_ _ | refine blk_drew ?_ | refine blk_alloc ?_ _)); exact BK284.out) hb); have n9_ := Aside0.mk (blk_below (g := gb295) (o := .cells #[.slice Ao25 t285.length co25, .slice Ao29 t288.length co29, .slice Ao30 t291.length co30] 31 (0, 0)) (by (with_reducible repeat (first | refine blk_drewN ?_ _ | refine blk_drew ?_ | refine blk_alloc ?_ _)); exact BK295.out) hb); have n10_ := Aside0.mk (below_step (by repeat (first | (with_reducible first | exact HB.out | apply below_alloc | apply pw_below_drewN | apply below_drew1 | refine below_set ?_ GE271.out | refine below_set ?_ GE284.out | refine below_set ?_ GE295.out) | exact HB.out)) hb); clear HO_10; clear HO_285000; clear HO_285001; clear HO_285002; clear HO_296000; clear HO_296001; clear HO_296002; clear BK271; clear BK284; clear BK295; clear HB; have HO_10 := n0_; have HO_285000 := n1_; have HO_285001 := n2_; have HO_285002 := n3_; have HO_296000 := n4_; have HO_296001 := n5_; have HO_296002 := n6_; have BK271 := n7_; have BK284 := n8_; have BK295 := n9_; have HB := n10_; clear n0_ n1_ n2_ n3_ n4_ n5_ n6_ n7_ n8_ n9_ n10_; (try clear hb); (try clear hb2); (try clear hk); (try clear hi)))
                      go_ret
                      exact ⟨by first | rfl | (simp [errW_none, errW_some] <;> rfl) | (simp [*, errW_none, errW_some] <;> rfl), by repeat (first | (with_reducible first | exact HB.out | apply below_alloc | apply pw_below_drewN | apply below_drew1 | refine below_set ?_ GE271.out | refine below_set ?_ GE284.out | refine below_set ?_ GE295.out) | exact HB.out)⟩
                    · replace c84 := Bool.eq_false_iff.mpr c84
                      subst c84
                      have H1 : (some true) = some r := by rw [if_neg (show ¬ (false = true) by decide)] at H; exact H
                      clear H
                      have H := H1
                      clear H1
                      obtain rfl := Option.some.inj H
                      have hnb93 := NB271_284.out
                      have hnc93 := NB284_271.out
                      have hnb94 := NB271_295.out
                      have hnc94 := NB295_271.out
                      have hcz95_0 : wr.cell? ⟨gb271, 0, none⟩ = some (.slice A0_0 l0_0.length c0_0) := (blk_cell BK271.out 0).trans rfl
                      have hcz95_1 : wr.cell? ⟨gb271, 1, none⟩ = some (.slice A0_1 l0_1.length c0_1) := (blk_cell BK271.out 1).trans rfl
                      have hcz95_2 : wr.cell? ⟨gb271, 2, none⟩ = some (.int .i64 a0_2) := (blk_cell BK271.out 2).trans rfl
                      have hcz95_3 : wr.cell? ⟨gb271, 3, none⟩ = some (.int .i64 a0_3) := (blk_cell BK271.out 3).trans rfl
                      have hcz95_4 : wr.cell? ⟨gb271, 4, none⟩ = some (.int .i64 a0_4) := (blk_cell BK271.out 4).trans rfl
                      have hfz95_0 := blk_frozen BK271.out 0
                      have hfz95_1 := blk_frozen BK271.out 1
                      have hfz95_2 := blk_frozen BK271.out 2
                      have hfz95_3 := blk_frozen BK271.out 3
                      have hfz95_4 := blk_frozen BK271.out 4
                      obtain ⟨Ao96, co96, eo96⟩ := Kd.R_slice HO_10.out
                      subst eo96
                      go_wp2
                      go_ret
                      exact ⟨by first | rfl | (simp [errW_none, errW_some] <;> rfl) | (simp [*, errW_none, errW_some] <;> rfl), by repeat (first | (with_reducible first | exact HB.out | apply below_alloc | apply pw_below_drewN | apply below_drew1 | refine below_set ?_ GE271.out | refine below_set ?_ GE284.out | refine below_set ?_ GE295.out) | exact HB.out)⟩
                  · rw [if_neg c83] at H
                    exact absurd H (by simp)
    · replace c6 := Bool.eq_false_iff.mpr c6
      subst c6
      have H1 : (some true) = some r := by rw [if_neg (show ¬ (false = true) by decide)] at H; exact H
      clear H
      have H := H1
      clear H1
      obtain rfl := Option.some.inj H
      go_enter Try.func3, Try.ntmps3
      go_wp2_with (first | ((with_reducible refine gate_dst (N := 2) rfl ?_); refine box_event ?hg (N := 2) ?hd (cs := #[.slice A0_0 l0_0.length c0_0, .slice A0_1 l0_1.length c0_1, .int .i64 a0_2, .int .i64 a0_3, .int .i64 a0_4]) (t := 25) ?hr ?_; (case hd => rfl); (case hg => rfl); (case hr => first | (go_simp; done) | (go_simp; rfl)); intro gb271 hg w97 hbox hb; have n0_ := Aside0.mk (below_step (by repeat (first | (with_reducible first | exact HB.out | apply below_alloc | apply pw_below_drewN | apply below_drew1) | exact HB.out)) hb); have n1_ := Aside0.mk (hbox); have n2_ := Aside0.mk ((by rw [hg]; exact (below_size (by repeat (first | (with_reducible first | exact HB.out | apply below_alloc | apply pw_below_drewN | apply below_drew1) | exact HB.out))) : w.heap.size ≤ gb271)); have n3_ := Aside0.mk ((by rw [hg]; exact (below_size (by repeat (first | (with_reducible first | exact HB.out | apply below_alloc | apply pw_below_drewN | apply below_drew1) | exact HB.out))) : w.heap.size ≤ gb271)); clear HB; have HB := n0_; have BK271 := n1_; have GW271 := n2_; have GE271 := n3_; clear n0_ n1_ n2_ n3_; clear hb hbox hg) | ((with_reducible refine gate_callee (f := 9) rfl ?_); refine goesL_ (some 12) rfl rfl Try.func9 (by kernel_rfl) rfl #[] rfl (by (try simp only [List.map_toArray, List.map_cons, List.map_nil]); first | done | rfl | (simp only [List.length_drop, List.length_take]; rfl)) ?_; (with_reducible refine (crossroadslaw17_awake.calls k  true _ A3.out).mono ?_); rintro e w98 ⟨rfl, hb⟩; refine ⟨_, rfl, ?_⟩; have n0_ := Aside0.mk (blk_below (g := gb271) (o := .cells #[.slice A0_0 l0_0.length c0_0, .slice A0_1 l0_1.length c0_1, .int .i64 a0_2, .int .i64 a0_3, .int .i64 a0_4] 25 (0, 0)) (by (with_reducible repeat (first | refine blk_drewN ?_ _ | refine blk_drew ?_ | refine blk_alloc ?_ _)); exact BK271.out) hb); have n1_ := Aside0.mk (below_step (by repeat (first | (with_reducible first | exact HB.out | apply below_alloc | apply pw_below_drewN | apply below_drew1 | refine below_set ?_ GE271.out) | exact HB.out)) hb); clear BK271; clear HB; have BK271 := n0_; have HB := n1_; clear n0_ n1_; (try clear hb); (try clear hb2); (try clear hk); (try clear hi); have hcz99_0 : w98.cell? ⟨gb271, 0, none⟩ = some (.slice A0_0 l0_0.length c0_0) := (blk_cell BK271.out 0).trans rfl; have hcz99_1 : w98.cell? ⟨gb271, 1, none⟩ = some (.slice A0_1 l0_1.length c0_1) := (blk_cell BK271.out 1).trans rfl; have hcz99_2 : w98.cell? ⟨gb271, 2, none⟩ = some (.int .i64 a0_2) := (blk_cell BK271.out 2).trans rfl; have hcz99_3 : w98.cell? ⟨gb271, 3, none⟩ = some (.int .i64 a0_3) := (blk_cell BK271.out 3).trans rfl; have hcz99_4 : w98.cell? ⟨gb271, 4, none⟩ = some (.int .i64 a0_4) := (blk_cell BK271.out 4).trans rfl; have hfz99_0 := blk_frozen BK271.out 0; have hfz99_1 := blk_frozen BK271.out 1; have hfz99_2 := blk_frozen BK271.out 2; have hfz99_3 := blk_frozen BK271.out 3; have hfz99_4 := blk_frozen BK271.out 4) | ((with_reducible refine gate_callee (f := 10) rfl ?_); refine goesL_ (some 15) rfl rfl Try.func10 (by kernel_rfl) rfl #[.agg #[.slice A0_0 l0_0.length c0_0, .slice A0_1 l0_1.length c0_1, .int .i64 a0_2, .int .i64 a0_3, .int .i64 a0_4]] rfl (by (try simp only [List.map_toArray, List.map_cons, List.map_nil]); first | done | rfl | (simp only [List.length_drop, List.length_take]; rfl)) ?_; (with_reducible refine (crossroadslaw17_Small.calls k _ _ l0_0 _ _ l0_1 a0_2 a0_3 a0_4 false _ ?side1 ?side2 ?side3 ?side4 A5.out).mono ?_); (case side1 => repeat (first | exact (Kd.C_below HR0_0.out HB.out) | (with_reducible refine Kd.C_alloc ?_ _) | (with_reducible refine Kd.C_drewN ?_ _) | (with_reducible refine Kd.C_drew ?_))); (case side2 => exact HC0_0.out); (case side3 => repeat (first | exact (Kd.C_below HR0_1.out HB.out) | (with_reducible refine Kd.C_alloc ?_ _) | (with_reducible refine Kd.C_drewN ?_ _) | (with_reducible refine Kd.C_drew ?_))); (case side4 => exact HC0_1.out); rintro e w100 ⟨rfl, hb⟩; refine ⟨_, rfl, ?_⟩; have n0_ := Aside0.mk (blk_below (g := gb271) (o := .cells #[.slice A0_0 l0_0.length c0_0, .slice A0_1 l0_1.length c0_1, .int .i64 a0_2, .int .i64 a0_3, .int .i64 a0_4] 25 (0, 0)) (by (with_reducible repeat (first | refine blk_drewN ?_ _ | refine blk_drew ?_ | refine blk_alloc ?_ _)); exact BK271.out) hb); have n1_ := Aside0.mk (below_step (by repeat (first | (with_reducible first | exact HB.out | apply below_alloc | apply pw_below_drewN | apply below_drew1 | refine below_set ?_ GE271.out) | exact HB.out)) hb); clear BK271; clear HB; have BK271 := n0_; have HB := n1_; clear n0_ n1_; (try clear hb); (try clear hb2); (try clear hk); (try clear hi)))
      go_ret
      exact ⟨by first | rfl | (simp [errW_none, errW_some] <;> rfl) | (simp [*, errW_none, errW_some] <;> rfl), by repeat (first | (with_reducible first | exact HB.out | apply below_alloc | apply pw_below_drewN | apply below_drew1 | refine below_set ?_ GE271.out) | exact HB.out)⟩
  · replace c4 := Bool.eq_false_iff.mpr c4
    subst c4
    have H1 : (none) = some r := by rw [if_neg (show ¬ (false = true) by decide)] at H; exact H
    clear H
    have H := H1
    clear H1
    exact absurd H (by simp)

/-- THE ONE PURE STATEMENT of crossroadslaw17_ClassCounts. -/
def crossroadslaw17_ClassCounts.Pure : Prop := ∀ (l0_0 : List (S38)) (l0_1 : List Int) (a0_2 : Int) (a0_3 : Int) (a0_4 : Int) (a1 : Int), (l0_0.length * 32 ≤ 140737488351232 ∧ l0_0.length ≤ 9223372036854775807 ∧ ∀ y1_ ∈ l0_0, (y1_.f0.size ≤ 140737488351232 ∧ (True ∧ (Lit.int .i64 y1_.f2).wf = true))) → (l0_1.length * 8 ≤ 140737488351232 ∧ l0_1.length ≤ 9223372036854775807 ∧ ∀ y2_ ∈ l0_1, (Lit.int .i64 y2_).wf = true) → (Lit.int .i64 a0_2).wf = true → (Lit.int .i64 a0_3).wf = true → (Lit.int .i64 a0_4).wf = true → (Lit.int .i64 a1).wf = true → ∃ k, crossroadslaw17_ClassCounts.f k l0_0 l0_1 a0_2 a0_3 a0_4 a1 = some true

end Go.Proofs.Ytmlnoapfhimgoaa.P
