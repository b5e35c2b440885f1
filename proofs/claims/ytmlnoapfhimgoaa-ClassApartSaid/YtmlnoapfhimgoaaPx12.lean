-- Laid by a program of this session (the kit's print, changed): Lean checks it.
import Derived.Test.YtmlnoapfhimgoaaShort
import Derived.Test.YtmlnoapfhimgoaaPx0
import Derived.Test.YtmlnoapfhimgoaaPx2
import Derived.Test.YtmlnoapfhimgoaaPx3
import Derived.Test.YtmlnoapfhimgoaaPx4
import Derived.Test.YtmlnoapfhimgoaaGNth
namespace Go.Proofs.Ytmlnoapfhimgoaa.G
end Go.Proofs.Ytmlnoapfhimgoaa.G
namespace Go.Proofs.Ytmlnoapfhimgoaa.P
open Go.Proofs.Ytmlnoapfhimgoaa.G
open Go.RowKit Go.Proofs.YtmlnoapfhimgoaaW.PrintWords Go.Proofs.YtmlnoapfhimgoaaW.PrintLast Go.Proofs.YtmlnoapfhimgoaaW.PrintMore
attribute [local go_sem] max2_int min2_int max_two min_two max_three min_three max_four min_four   -- for this text's walks alone
set_option linter.unusedVariables false
set_option linter.unusedSimpArgs false
/-! ### crossroadslaw17_ClassApart: function 6 -/
mutual
def crossroadslaw17_ClassApart.j0 : Nat → Int → Int → Bool → List (S38) → List Int → Int → Int → Int → List (List Int) → List (List Int) → List Bool → List (List Int) → List (List Int) → List Bool → Option (Bool)
 | 0, _, _, _, _, _, _, _, _, _, _, _, _, _, _ => none
 | k + 1, x1, x2, x40, x477000, x477001, x477002, x477003, x477004, x490000, x490001, x490002, x501000, x501001, x501002 => if x40 = true then (some true) else ((class_Has.f k x477000 x477001 x477002 x477003 x477004 x490000 x490001 x490002).bind fun t501 => (if t501 = true then ((class_Has.f k x477000 x477001 x477002 x477003 x477004 x501000 x501001 x501002).bind fun t502 => (if t502 = true then ((crossroadsref17_Same.f k x490000 x490001 x490002 x501000 x501001 x501002).bind fun t503 => (crossroadslaw17_ClassApart.j1 k x1 x2 (t503 != (x1 == x2)) x490000 x490001 x490002 x501000 x501001 x501002)) else (crossroadslaw17_ClassApart.j1 k x1 x2 true x490000 x490001 x490002 x501000 x501001 x501002))) else (crossroadslaw17_ClassApart.j1 k x1 x2 true x490000 x490001 x490002 x501000 x501001 x501002)))
def crossroadslaw17_ClassApart.j1 : Nat → Int → Int → Bool → List (List Int) → List (List Int) → List Bool → List (List Int) → List (List Int) → List Bool → Option (Bool)
 | 0, _, _, _, _, _, _, _, _, _ => none
 | k + 1, x1, x2, x59, x490000, x490001, x490002, x501000, x501001, x501002 => if x59 = true then (none) else ((some (([] : List (List Int)) : List (List Int))).bind fun y504 => (if y504.length + x490000.length < 5864062014805 then ((some (y504 ++ x490000 : List (List Int))).bind fun y507 => (if y507.length + x490001.length < 5864062014805 then ((some (([] : List (List Int)) : List (List Int))).bind fun y513 => (if y513.length + x501000.length < 5864062014805 then ((some (y513 ++ x501000 : List (List Int))).bind fun y516 => (if y516.length + x501001.length < 5864062014805 then (crossroadslaw17_ClassApart.l0 k x1 x2 (y507 ++ x490001) (y516 ++ x501001) 0 x490000 x490001 x490002 x501000 x501001 x501002) else (none))) else (none))) else (none))) else (none)))
def crossroadslaw17_ClassApart.l0 : Nat → Int → Int → List (List Int) → List (List Int) → Int → List (List Int) → List (List Int) → List Bool → List (List Int) → List (List Int) → List Bool → Option (Bool)
 | 0, _, _, _, _, _, _, _, _, _, _, _ => none
 | k + 1, x1, x2, x11, x12, x13, x490000, x490001, x490002, x501000, x501001, x501002 => if x13 < (x11.length : Int) then (if 0 ≤ x13 then (if x13 < (x12.length : Int) then (if (strOfNums (rd_L7 x11 x13)).toList = (strOfNums (rd_L7 x12 x13)).toList then (crossroadslaw17_ClassApart.l0 k x1 x2 x11 x12 (wrap64 (x13 + 1)) x490000 x490001 x490002 x501000 x501001 x501002) else (if ((rd_L7 x11 x13).length : Int) < ((rd_L7 x12 x13).length : Int) then (some (true == (decide (x1 < x2)))) else (if ((rd_L7 x11 x13).length : Int) = ((rd_L7 x12 x13).length : Int) then (some ((Op.bytesLess ((strOfNums (rd_L7 x11 x13)).toList) ((strOfNums (rd_L7 x12 x13)).toList)) == (decide (x1 < x2)))) else (some (false == (decide (x1 < x2))))))) else (none)) else (none)) else (crossroadslaw17_ClassApart.l1 k x1 x2 0 x490000 x490001 x490002 x501000 x501001 x501002)
def crossroadslaw17_ClassApart.l1 : Nat → Int → Int → Int → List (List Int) → List (List Int) → List Bool → List (List Int) → List (List Int) → List Bool → Option (Bool)
 | 0, _, _, _, _, _, _, _, _, _ => none
 | k + 1, x1, x2, x15, x490000, x490001, x490002, x501000, x501001, x501002 => if x15 < (x490002.length : Int) then (if 0 ≤ x15 then (if x15 < (x501002.length : Int) then (if ((rdOf false x490002 x15) != (rdOf false x501002 x15)) = true then (some ((rdOf false x501002 x15) == (decide (x1 < x2)))) else (crossroadslaw17_ClassApart.l1 k x1 x2 (wrap64 (x15 + 1)) x490000 x490001 x490002 x501000 x501001 x501002)) else (none)) else (none)) else (some (x1 == x2))
end
def crossroadslaw17_ClassApart.f (k : Nat) (l0_0 : List (S38)) (l0_1 : List Int) (a0_2 : Int) (a0_3 : Int) (a0_4 : Int) (a1 : Int) (a2 : Int) : Option (Bool) := (crossroadslaw17_awake.f k).bind fun t477 => (if t477 = true then ((crossroadslaw17_Small.f k l0_0 l0_1 a0_2 a0_3 a0_4).bind fun t478 => (if t478 = true then ((class_Nth.f l0_0 l0_1 a0_2 a0_3 a0_4 (wrap64 (a1))).bind fun bt479 => ((class_Nth.f l0_0 l0_1 a0_2 a0_3 a0_4 (wrap64 (a2))).bind fun bt490 => (if bt479.2.2.2 = true then (crossroadslaw17_ClassApart.j0 k a1 a2 (!bt490.2.2.2) l0_0 l0_1 a0_2 a0_3 a0_4 bt479.1 bt479.2.1 bt479.2.2.1 bt490.1 bt490.2.1 bt490.2.2.1) else (crossroadslaw17_ClassApart.j0 k a1 a2 true l0_0 l0_1 a0_2 a0_3 a0_4 bt479.1 bt479.2.1 bt479.2.2.1 bt490.1 bt490.2.1 bt490.2.2.1)))) else (some true))) else (none))
theorem crossroadslaw17_ClassApart.mono_l : ∀ k, (∀ y0 y1 y2 y3 y4 y5 y6 y7 y8 y9 y10 y11 y12 y13, LeO (crossroadslaw17_ClassApart.j0 k y0 y1 y2 y3 y4 y5 y6 y7 y8 y9 y10 y11 y12 y13) (crossroadslaw17_ClassApart.j0 (k + 1) y0 y1 y2 y3 y4 y5 y6 y7 y8 y9 y10 y11 y12 y13)) ∧ (∀ y0 y1 y2 y3 y4 y5 y6 y7 y8, LeO (crossroadslaw17_ClassApart.j1 k y0 y1 y2 y3 y4 y5 y6 y7 y8) (crossroadslaw17_ClassApart.j1 (k + 1) y0 y1 y2 y3 y4 y5 y6 y7 y8)) ∧ (∀ y0 y1 y2 y3 y4 y5 y6 y7 y8 y9 y10, LeO (crossroadslaw17_ClassApart.l0 k y0 y1 y2 y3 y4 y5 y6 y7 y8 y9 y10) (crossroadslaw17_ClassApart.l0 (k + 1) y0 y1 y2 y3 y4 y5 y6 y7 y8 y9 y10)) ∧ (∀ y0 y1 y2 y3 y4 y5 y6 y7 y8, LeO (crossroadslaw17_ClassApart.l1 k y0 y1 y2 y3 y4 y5 y6 y7 y8) (crossroadslaw17_ClassApart.l1 (k + 1) y0 y1 y2 y3 y4 y5 y6 y7 y8))
 | 0 => ⟨fun _ _ _ _ _ _ _ _ _ _ _ _ _ _ r h => by simp [crossroadslaw17_ClassApart.j0] at h, fun _ _ _ _ _ _ _ _ _ r h => by simp [crossroadslaw17_ClassApart.j1] at h, fun _ _ _ _ _ _ _ _ _ _ _ r h => by simp [crossroadslaw17_ClassApart.l0] at h, fun _ _ _ _ _ _ _ _ _ r h => by simp [crossroadslaw17_ClassApart.l1] at h⟩
 | k + 1 => by
  obtain ⟨ih0, ih1, ih2, ih3⟩ := crossroadslaw17_ClassApart.mono_l k
  refine ⟨?_, ?_, ?_, ?_⟩
  ·intro y0 y1 y2 y3 y4 y5 y6 y7 y8 y9 y10 y11 y12 y13
   unfold crossroadslaw17_ClassApart.j0
   repeat' first
   | (with_reducible exact ih0 _ _ _ _ _ _ _ _ _ _ _ _ _ _)
   | (with_reducible exact ih1 _ _ _ _ _ _ _ _ _)
   | (with_reducible exact ih2 _ _ _ _ _ _ _ _ _ _ _)
   | (with_reducible exact ih3 _ _ _ _ _ _ _ _ _)
   | (with_reducible exact class_Has.mono _ _ _ _ _ _ _ _ _)
   | (with_reducible exact crossroadslaw17_Small.mono _ _ _ _ _ _)
   | (with_reducible exact crossroadslaw17_awake.mono _)
   | (with_reducible exact crossroadsref17_Same.mono _ _ _ _ _ _ _)
   | (with_reducible exact LeO.refl _)
   | (with_reducible exact LeO.none _)
   | (with_reducible refine LeO.ite ?_ ?_)
   | (with_reducible refine LeO.bind ?_ (fun _ => ?_))
   | exact ih0 _ _ _ _ _ _ _ _ _ _ _ _ _ _
   | exact ih1 _ _ _ _ _ _ _ _ _
   | exact ih2 _ _ _ _ _ _ _ _ _ _ _
   | exact ih3 _ _ _ _ _ _ _ _ _
   | exact class_Has.mono _ _ _ _ _ _ _ _ _
   | exact crossroadslaw17_Small.mono _ _ _ _ _ _
   | exact crossroadslaw17_awake.mono _
   | exact crossroadsref17_Same.mono _ _ _ _ _ _ _
   | exact LeO.none _
   | refine LeO.ite ?_ ?_
   | refine LeO.bind ?_ (fun _ => ?_)
  ·intro y0 y1 y2 y3 y4 y5 y6 y7 y8
   unfold crossroadslaw17_ClassApart.j1
   repeat' first
   | (with_reducible exact ih0 _ _ _ _ _ _ _ _ _ _ _ _ _ _)
   | (with_reducible exact ih1 _ _ _ _ _ _ _ _ _)
   | (with_reducible exact ih2 _ _ _ _ _ _ _ _ _ _ _)
   | (with_reducible exact ih3 _ _ _ _ _ _ _ _ _)
   | (with_reducible exact class_Has.mono _ _ _ _ _ _ _ _ _)
   | (with_reducible exact crossroadslaw17_Small.mono _ _ _ _ _ _)
   | (with_reducible exact crossroadslaw17_awake.mono _)
   | (with_reducible exact crossroadsref17_Same.mono _ _ _ _ _ _ _)
   | (with_reducible exact LeO.refl _)
   | (with_reducible exact LeO.none _)
   | (with_reducible refine LeO.ite ?_ ?_)
   | (with_reducible refine LeO.bind ?_ (fun _ => ?_))
   | exact ih0 _ _ _ _ _ _ _ _ _ _ _ _ _ _
   | exact ih1 _ _ _ _ _ _ _ _ _
   | exact ih2 _ _ _ _ _ _ _ _ _ _ _
   | exact ih3 _ _ _ _ _ _ _ _ _
   | exact class_Has.mono _ _ _ _ _ _ _ _ _
   | exact crossroadslaw17_Small.mono _ _ _ _ _ _
   | exact crossroadslaw17_awake.mono _
   | exact crossroadsref17_Same.mono _ _ _ _ _ _ _
   | exact LeO.none _
   | refine LeO.ite ?_ ?_
   | refine LeO.bind ?_ (fun _ => ?_)
  ·intro y0 y1 y2 y3 y4 y5 y6 y7 y8 y9 y10
   unfold crossroadslaw17_ClassApart.l0
   repeat' first
   | (with_reducible exact ih0 _ _ _ _ _ _ _ _ _ _ _ _ _ _)
   | (with_reducible exact ih1 _ _ _ _ _ _ _ _ _)
   | (with_reducible exact ih2 _ _ _ _ _ _ _ _ _ _ _)
   | (with_reducible exact ih3 _ _ _ _ _ _ _ _ _)
   | (with_reducible exact class_Has.mono _ _ _ _ _ _ _ _ _)
   | (with_reducible exact crossroadslaw17_Small.mono _ _ _ _ _ _)
   | (with_reducible exact crossroadslaw17_awake.mono _)
   | (with_reducible exact crossroadsref17_Same.mono _ _ _ _ _ _ _)
   | (with_reducible exact LeO.refl _)
   | (with_reducible exact LeO.none _)
   | (with_reducible refine LeO.ite ?_ ?_)
   | (with_reducible refine LeO.bind ?_ (fun _ => ?_))
   | exact ih0 _ _ _ _ _ _ _ _ _ _ _ _ _ _
   | exact ih1 _ _ _ _ _ _ _ _ _
   | exact ih2 _ _ _ _ _ _ _ _ _ _ _
   | exact ih3 _ _ _ _ _ _ _ _ _
   | exact class_Has.mono _ _ _ _ _ _ _ _ _
   | exact crossroadslaw17_Small.mono _ _ _ _ _ _
   | exact crossroadslaw17_awake.mono _
   | exact crossroadsref17_Same.mono _ _ _ _ _ _ _
   | exact LeO.none _
   | refine LeO.ite ?_ ?_
   | refine LeO.bind ?_ (fun _ => ?_)
  ·intro y0 y1 y2 y3 y4 y5 y6 y7 y8
   unfold crossroadslaw17_ClassApart.l1
   repeat' first
   | (with_reducible exact ih0 _ _ _ _ _ _ _ _ _ _ _ _ _ _)
   | (with_reducible exact ih1 _ _ _ _ _ _ _ _ _)
   | (with_reducible exact ih2 _ _ _ _ _ _ _ _ _ _ _)
   | (with_reducible exact ih3 _ _ _ _ _ _ _ _ _)
   | (with_reducible exact class_Has.mono _ _ _ _ _ _ _ _ _)
   | (with_reducible exact crossroadslaw17_Small.mono _ _ _ _ _ _)
   | (with_reducible exact crossroadslaw17_awake.mono _)
   | (with_reducible exact crossroadsref17_Same.mono _ _ _ _ _ _ _)
   | (with_reducible exact LeO.refl _)
   | (with_reducible exact LeO.none _)
   | (with_reducible refine LeO.ite ?_ ?_)
   | (with_reducible refine LeO.bind ?_ (fun _ => ?_))
   | exact ih0 _ _ _ _ _ _ _ _ _ _ _ _ _ _
   | exact ih1 _ _ _ _ _ _ _ _ _
   | exact ih2 _ _ _ _ _ _ _ _ _ _ _
   | exact ih3 _ _ _ _ _ _ _ _ _
   | exact class_Has.mono _ _ _ _ _ _ _ _ _
   | exact crossroadslaw17_Small.mono _ _ _ _ _ _
   | exact crossroadslaw17_awake.mono _
   | exact crossroadsref17_Same.mono _ _ _ _ _ _ _
   | exact LeO.none _
   | refine LeO.ite ?_ ?_
   | refine LeO.bind ?_ (fun _ => ?_)
theorem crossroadslaw17_ClassApart.mono : ∀ a0 a1 a2 a3 a4 a5 a6 k, LeO (crossroadslaw17_ClassApart.f k a0 a1 a2 a3 a4 a5 a6) (crossroadslaw17_ClassApart.f (k + 1) a0 a1 a2 a3 a4 a5 a6) := by
 intro a0 a1 a2 a3 a4 a5 a6 k
 obtain ⟨ih0, ih1, ih2, ih3⟩ := crossroadslaw17_ClassApart.mono_l k
 unfold crossroadslaw17_ClassApart.f
 repeat' first
   | (with_reducible exact ih0 _ _ _ _ _ _ _ _ _ _ _ _ _ _)
   | (with_reducible exact ih1 _ _ _ _ _ _ _ _ _)
   | (with_reducible exact ih2 _ _ _ _ _ _ _ _ _ _ _)
   | (with_reducible exact ih3 _ _ _ _ _ _ _ _ _)
   | (with_reducible exact class_Has.mono _ _ _ _ _ _ _ _ _)
   | (with_reducible exact crossroadslaw17_Small.mono _ _ _ _ _ _)
   | (with_reducible exact crossroadslaw17_awake.mono _)
   | (with_reducible exact crossroadsref17_Same.mono _ _ _ _ _ _ _)
   | (with_reducible exact LeO.refl _)
   | (with_reducible exact LeO.none _)
   | (with_reducible refine LeO.ite ?_ ?_)
   | (with_reducible refine LeO.bind ?_ (fun _ => ?_))
   | exact ih0 _ _ _ _ _ _ _ _ _ _ _ _ _ _
   | exact ih1 _ _ _ _ _ _ _ _ _
   | exact ih2 _ _ _ _ _ _ _ _ _ _ _
   | exact ih3 _ _ _ _ _ _ _ _ _
   | exact class_Has.mono _ _ _ _ _ _ _ _ _
   | exact crossroadslaw17_Small.mono _ _ _ _ _ _
   | exact crossroadslaw17_awake.mono _
   | exact crossroadsref17_Same.mono _ _ _ _ _ _ _
   | exact LeO.none _
   | refine LeO.ite ?_ ?_
   | refine LeO.bind ?_ (fun _ => ?_)
def crossroadslaw17_ClassApart.T11 : Bool × List (List Nat × List Nat) := (true, [([], []), ([], []), ([1], [1]), ([0, 2], [0, 2]), ([], []), ([4], [4]), ([3, 5, 3], [3, 5]), ([6, 6, 0, 1, 2, 3, 4, 5, 6], [6])])
def crossroadslaw17_ClassApart.B11 : List Nat := [0, 0, 2, 7, 0, 16, 63, 127]
theorem crossroadslaw17_ClassApart.tab11 : rtab .any (opsOf Try.f6 11) = crossroadslaw17_ClassApart.T11 := by kernel_rfl
theorem crossroadslaw17_ClassApart.bits11 : waitsOk crossroadslaw17_ClassApart.T11.2 crossroadslaw17_ClassApart.B11 = true := by kernel_rfl
def crossroadslaw17_ClassApart.T12 : Bool × List (List Nat × List Nat) := (true, [([], []), ([], []), ([1], [1]), ([0, 2], [0, 2]), ([], []), ([4], [4]), ([3, 5, 3], [3, 5]), ([6, 6, 0, 1, 2, 3, 4, 5, 6], [6])])
def crossroadslaw17_ClassApart.B12 : List Nat := [0, 0, 2, 7, 0, 16, 63, 127]
theorem crossroadslaw17_ClassApart.tab12 : rtab .any (opsOf Try.f6 12) = crossroadslaw17_ClassApart.T12 := by kernel_rfl
theorem crossroadslaw17_ClassApart.bits12 : waitsOk crossroadslaw17_ClassApart.T12.2 crossroadslaw17_ClassApart.B12 = true := by kernel_rfl
def crossroadslaw17_ClassApart.T16 : Bool × List (List Nat × List Nat) := (true, [([], []), ([], []), ([0, 1], [0, 1]), ([2], [2]), ([3], [3]), ([], []), ([], []), ([5, 6], [5, 6]), ([7], [7]), ([8], [8]), ([4, 9], [4, 9])])
def crossroadslaw17_ClassApart.B16 : List Nat := [0, 0, 3, 7, 15, 0, 0, 96, 224, 480, 1023]
theorem crossroadslaw17_ClassApart.tab16 : rtab .any (opsOf Try.f6 16) = crossroadslaw17_ClassApart.T16 := by kernel_rfl
theorem crossroadslaw17_ClassApart.bits16 : waitsOk crossroadslaw17_ClassApart.T16.2 crossroadslaw17_ClassApart.B16 = true := by kernel_rfl
def crossroadslaw17_ClassApart.T17 : Bool × List (List Nat × List Nat) := (true, [([], []), ([], []), ([0, 1], [0, 1]), ([2], [2]), ([3], [3]), ([], []), ([], []), ([5, 6], [5, 6]), ([7], [7]), ([8], [8]), ([4, 9], [4, 9]), ([10], [10]), ([11], [11]), ([11], [11]), ([12, 13, 11], [11, 12, 13]), ([14, 11], [11, 14]), ([15, 11], [11, 15]), ([11], [11]), ([11], [11]), ([17, 18, 11], [11, 17, 18]), ([19, 11], [11, 19]), ([20, 11], [11, 20]), ([16, 21, 11], [11, 16, 21]), ([22, 11, 11], [11, 22]), ([23], [23]), ([23], [23]), ([24, 25, 23], [23, 24, 25]), ([26, 23], [23, 26]), ([27, 23], [23, 27]), ([23], [23]), ([23], [23]), ([29, 30, 23], [23, 29, 30]), ([31, 23], [23, 31]), ([32, 23], [23, 32]), ([28, 33, 23], [23, 28, 33]), ([23, 34, 11], [11, 23, 34]), ([11, 35], [11, 35]), ([36, 23, 0, 1, 2, 3, 4, 5, 6, 7, 8, 9, 10, 11, 12, 13, 14, 15, 16, 17, 18, 19, 20, 21, 22, 23, 24, 25, 26, 27, 28, 29, 30, 31, 32, 33, 34, 35, 36], [36])])
def crossroadslaw17_ClassApart.B17 : List Nat := [0, 0, 3, 7, 15, 0, 0, 96, 224, 480, 1023, 2047, 4095, 4095, 16383, 32767, 65535, 4095, 4095, 397311, 921599, 1970175, 4194303, 8388607, 16777215, 16777215, 67108863, 134217727, 268435455, 16777215, 16777215, 1627389951, 3774873599, 8069840895, 17179869183, 34359738367, 68719476735, 137438953471]
theorem crossroadslaw17_ClassApart.tab17 : rtab .any (opsOf Try.f6 17) = crossroadslaw17_ClassApart.T17 := by kernel_rfl
theorem crossroadslaw17_ClassApart.bits17 : waitsOk crossroadslaw17_ClassApart.T17.2 crossroadslaw17_ClassApart.B17 = true := by kernel_rfl
def crossroadslaw17_ClassApart.T22 : Bool × List (List Nat × List Nat) := (true, [([], []), ([0], [0]), ([], []), ([1, 2], [1, 2]), ([3], [3]), ([], []), ([5], [5]), ([], []), ([6, 7], [6, 7]), ([8], [8]), ([4, 9], [4, 9])])
def crossroadslaw17_ClassApart.B22 : List Nat := [0, 1, 0, 7, 15, 0, 32, 0, 224, 480, 1023]
theorem crossroadslaw17_ClassApart.tab22 : rtab .any (opsOf Try.f6 22) = crossroadslaw17_ClassApart.T22 := by kernel_rfl
theorem crossroadslaw17_ClassApart.bits22 : waitsOk crossroadslaw17_ClassApart.T22.2 crossroadslaw17_ClassApart.B22 = true := by kernel_rfl
set_option maxHeartbeats 8000000 in
set_option maxRecDepth 100000 in
theorem crossroadslaw17_ClassApart.calls (k : Nat) (A0_0 : Option Addr) (c0_0 : Nat) (l0_0 : List (S38)) (A0_1 : Option Addr) (c0_1 : Nat) (l0_1 : List Int) (a0_2 : Int) (a0_3 : Int) (a0_4 : Int) (a1 : Int) (a2 : Int) (r : Bool) (w : World) (hr0_0 : Kd.C k38 w A0_0 l0_0.length l0_0) (hc0_0 : l0_0.length ≤ c0_0) (hr0_1 : Kd.C (Kd.int .i64) w A0_1 l0_1.length l0_1) (hc0_1 : l0_1.length ≤ c0_1) (h : crossroadslaw17_ClassApart.f k l0_0 l0_1 a0_2 a0_3 a0_4 a1 a2 = some r) :
  Calls Try.prog 6 #[.agg #[.slice A0_0 l0_0.length c0_0, .slice A0_1 l0_1.length c0_1, .int .i64 a0_2, .int .i64 a0_3, .int .i64 a0_4], .int .u16 a1, .int .u16 a2] w fun e w' => e = .returned (.bool r) ∧ Below w.heap.size w w' := by
 have hu25 := Try.underlying25
 have hu31 := Try.underlying31
 have HR0_0 := Aside0.mk hr0_0
 have HC0_0 := Aside0.mk hc0_0
 clear hr0_0 hc0_0
 have HR0_1 := Aside0.mk hr0_1
 have HC0_1 := Aside0.mk hc0_1
 clear hr0_1 hc0_1
 have HB := Aside0.mk (Below.refl w.heap.size w)
 have H : ((crossroadslaw17_awake.f k).bind fun t477 => (if t477 = true then ((crossroadslaw17_Small.f k l0_0 l0_1 a0_2 a0_3 a0_4).bind fun t478 => (if t478 = true then ((class_Nth.f l0_0 l0_1 a0_2 a0_3 a0_4 (wrap64 (a1))).bind fun bt479 => ((class_Nth.f l0_0 l0_1 a0_2 a0_3 a0_4 (wrap64 (a2))).bind fun bt490 => (if bt479.2.2.2 = true then (crossroadslaw17_ClassApart.j0 k a1 a2 (!bt490.2.2.2) l0_0 l0_1 a0_2 a0_3 a0_4 bt479.1 bt479.2.1 bt479.2.2.1 bt490.1 bt490.2.1 bt490.2.2.1) else (crossroadslaw17_ClassApart.j0 k a1 a2 true l0_0 l0_1 a0_2 a0_3 a0_4 bt479.1 bt479.2.1 bt479.2.2.1 bt490.1 bt490.2.1 bt490.2.2.1)))) else (some true))) else (none))) = some r := h
 clear h
 replace H := Option.bind_eq_some_iff.mp H
 obtain ⟨t477, A40, H⟩ := H
 replace H : (if t477 = true then ((crossroadslaw17_Small.f k l0_0 l0_1 a0_2 a0_3 a0_4).bind fun t478 => (if t478 = true then ((class_Nth.f l0_0 l0_1 a0_2 a0_3 a0_4 (wrap64 (a1))).bind fun bt479 => ((class_Nth.f l0_0 l0_1 a0_2 a0_3 a0_4 (wrap64 (a2))).bind fun bt490 => (if bt479.2.2.2 = true then (crossroadslaw17_ClassApart.j0 k a1 a2 (!bt490.2.2.2) l0_0 l0_1 a0_2 a0_3 a0_4 bt479.1 bt479.2.1 bt479.2.2.1 bt490.1 bt490.2.1 bt490.2.2.1) else (crossroadslaw17_ClassApart.j0 k a1 a2 true l0_0 l0_1 a0_2 a0_3 a0_4 bt479.1 bt479.2.1 bt479.2.2.1 bt490.1 bt490.2.1 bt490.2.2.1)))) else (some true))) else (none)) = some r := H
 have A4 := Aside0.mk A40
 clear A40
 by_cases c5 : t477 = true
 ·subst c5
  have H1 : ((crossroadslaw17_Small.f k l0_0 l0_1 a0_2 a0_3 a0_4).bind fun t478 => (if t478 = true then ((class_Nth.f l0_0 l0_1 a0_2 a0_3 a0_4 (wrap64 (a1))).bind fun bt479 => ((class_Nth.f l0_0 l0_1 a0_2 a0_3 a0_4 (wrap64 (a2))).bind fun bt490 => (if bt479.2.2.2 = true then (crossroadslaw17_ClassApart.j0 k a1 a2 (!bt490.2.2.2) l0_0 l0_1 a0_2 a0_3 a0_4 bt479.1 bt479.2.1 bt479.2.2.1 bt490.1 bt490.2.1 bt490.2.2.1) else (crossroadslaw17_ClassApart.j0 k a1 a2 true l0_0 l0_1 a0_2 a0_3 a0_4 bt479.1 bt479.2.1 bt479.2.2.1 bt490.1 bt490.2.1 bt490.2.2.1)))) else (some true))) = some r := by rw [if_pos rfl] at H; exact H
  clear H
  have H := H1
  clear H1
  replace H := Option.bind_eq_some_iff.mp H
  obtain ⟨t478, A60, H⟩ := H
  replace H : (if t478 = true then ((class_Nth.f l0_0 l0_1 a0_2 a0_3 a0_4 (wrap64 (a1))).bind fun bt479 => ((class_Nth.f l0_0 l0_1 a0_2 a0_3 a0_4 (wrap64 (a2))).bind fun bt490 => (if bt479.2.2.2 = true then (crossroadslaw17_ClassApart.j0 k a1 a2 (!bt490.2.2.2) l0_0 l0_1 a0_2 a0_3 a0_4 bt479.1 bt479.2.1 bt479.2.2.1 bt490.1 bt490.2.1 bt490.2.2.1) else (crossroadslaw17_ClassApart.j0 k a1 a2 true l0_0 l0_1 a0_2 a0_3 a0_4 bt479.1 bt479.2.1 bt479.2.2.1 bt490.1 bt490.2.1 bt490.2.2.1)))) else (some true)) = some r := H
  have A6 := Aside0.mk A60
  clear A60
  by_cases c7 : t478 = true
  ·subst c7
   have H1 : ((class_Nth.f l0_0 l0_1 a0_2 a0_3 a0_4 (wrap64 (a1))).bind fun bt479 => ((class_Nth.f l0_0 l0_1 a0_2 a0_3 a0_4 (wrap64 (a2))).bind fun bt490 => (if bt479.2.2.2 = true then (crossroadslaw17_ClassApart.j0 k a1 a2 (!bt490.2.2.2) l0_0 l0_1 a0_2 a0_3 a0_4 bt479.1 bt479.2.1 bt479.2.2.1 bt490.1 bt490.2.1 bt490.2.2.1) else (crossroadslaw17_ClassApart.j0 k a1 a2 true l0_0 l0_1 a0_2 a0_3 a0_4 bt479.1 bt479.2.1 bt479.2.2.1 bt490.1 bt490.2.1 bt490.2.2.1)))) = some r := by rw [if_pos rfl] at H; exact H
   clear H
   have H := H1
   clear H1
   replace H := Option.bind_eq_some_iff.mp H
   obtain ⟨⟨t479, t482, t485, t488⟩, A80, H⟩ := H
   replace H : ((class_Nth.f l0_0 l0_1 a0_2 a0_3 a0_4 (wrap64 (a2))).bind fun bt490 => (if t488 = true then (crossroadslaw17_ClassApart.j0 k a1 a2 (!bt490.2.2.2) l0_0 l0_1 a0_2 a0_3 a0_4 t479 t482 t485 bt490.1 bt490.2.1 bt490.2.2.1) else (crossroadslaw17_ClassApart.j0 k a1 a2 true l0_0 l0_1 a0_2 a0_3 a0_4 t479 t482 t485 bt490.1 bt490.2.1 bt490.2.2.1))) = some r := H
   have A8 := Aside0.mk A80
   clear A80
   replace H := Option.bind_eq_some_iff.mp H
   obtain ⟨⟨t490, t493, t496, t499⟩, A90, H⟩ := H
   replace H : (if t488 = true then (crossroadslaw17_ClassApart.j0 k a1 a2 (!t499) l0_0 l0_1 a0_2 a0_3 a0_4 t479 t482 t485 t490 t493 t496) else (crossroadslaw17_ClassApart.j0 k a1 a2 true l0_0 l0_1 a0_2 a0_3 a0_4 t479 t482 t485 t490 t493 t496)) = some r := H
   have A9 := Aside0.mk A90
   clear A90
   have HC10 := Aside0.mk H
   clear H
   go_enter Try.func6, Try.ntmps6
   go_upto_region 7 with (first | ((with_reducible refine gate_dst (N := 3) rfl ?_); (try (refine gate_guard (by rfl) ?_; dsimp only)); refine box_event ?hg (N := 3) ?hd (cs := #[.slice A0_0 l0_0.length c0_0, .slice A0_1 l0_1.length c0_1, .int .i64 a0_2, .int .i64 a0_3, .int .i64 a0_4]) (t := 25) ?hr ?_; (case hd => rfl); (case hg => rfl); (case hr => first | (go_simp; done) | (go_simp; rfl)); intro gb476 hg w11 hbox hb; have n0_ := Aside0.mk (below_step (by repeat (first | (with_reducible first | exact HB.out | apply below_alloc | apply pw_below_drewN | apply below_drew1) | exact HB.out)) hb); have n1_ := Aside0.mk (hbox); have n2_ := Aside0.mk ((by rw [hg]; exact (below_size (by repeat (first | (with_reducible first | exact HB.out | apply below_alloc | apply pw_below_drewN | apply below_drew1) | exact HB.out))) : w.heap.size ≤ gb476)); have n3_ := Aside0.mk ((by rw [hg]; exact (below_size (by repeat (first | (with_reducible first | exact HB.out | apply below_alloc | apply pw_below_drewN | apply below_drew1) | exact HB.out))) : w.heap.size ≤ gb476)); clear HB; have HB := n0_; have BK476 := n1_; have GW476 := n2_; have GE476 := n3_; clear n0_ n1_ n2_ n3_; clear hb hbox hg) | ((with_reducible refine gate_callee (f := 9) rfl ?_); refine goesL_ (some 16) rfl rfl Try.func9 (by kernel_rfl) rfl #[] rfl (by (try simp only [List.map_toArray, List.map_cons, List.map_nil]); first | done | rfl | (simp only [List.length_drop, List.length_take]; rfl)) ?_; (with_reducible refine (crossroadslaw17_awake.calls k  true _ A4.out).mono ?_); rintro e w12 ⟨rfl, hb⟩; refine ⟨_, rfl, ?_⟩; have n0_ := Aside0.mk (blk_below (g := gb476) (o := .cells #[.slice A0_0 l0_0.length c0_0, .slice A0_1 l0_1.length c0_1, .int .i64 a0_2, .int .i64 a0_3, .int .i64 a0_4] 25 (0, 0)) (by (with_reducible repeat (first | refine blk_drewN ?_ _ | refine blk_drew ?_ | refine blk_alloc ?_ _)); exact BK476.out) hb); have n1_ := Aside0.mk (below_step (by repeat (first | (with_reducible first | exact HB.out | apply below_alloc | apply pw_below_drewN | apply below_drew1 | refine below_set ?_ GE476.out) | exact HB.out)) hb); clear BK476; clear HB; have BK476 := n0_; have HB := n1_; clear n0_ n1_; (try clear hb); (try clear hb2); (try clear hk); (try clear hi); have hcz13_0 : w12.cell? ⟨gb476, 0, none⟩ = some (.slice A0_0 l0_0.length c0_0) := (blk_cell BK476.out 0).trans rfl; have hcz13_1 : w12.cell? ⟨gb476, 1, none⟩ = some (.slice A0_1 l0_1.length c0_1) := (blk_cell BK476.out 1).trans rfl; have hcz13_2 : w12.cell? ⟨gb476, 2, none⟩ = some (.int .i64 a0_2) := (blk_cell BK476.out 2).trans rfl; have hcz13_3 : w12.cell? ⟨gb476, 3, none⟩ = some (.int .i64 a0_3) := (blk_cell BK476.out 3).trans rfl; have hcz13_4 : w12.cell? ⟨gb476, 4, none⟩ = some (.int .i64 a0_4) := (blk_cell BK476.out 4).trans rfl; have hfz13_0 := blk_frozen BK476.out 0; have hfz13_1 := blk_frozen BK476.out 1; have hfz13_2 := blk_frozen BK476.out 2; have hfz13_3 := blk_frozen BK476.out 3; have hfz13_4 := blk_frozen BK476.out 4) | ((with_reducible refine gate_callee (f := 10) rfl ?_); refine goesL_ (some 19) rfl rfl Try.func10 (by kernel_rfl) rfl #[.agg #[.slice A0_0 l0_0.length c0_0, .slice A0_1 l0_1.length c0_1, .int .i64 a0_2, .int .i64 a0_3, .int .i64 a0_4]] rfl (by (try simp only [List.map_toArray, List.map_cons, List.map_nil]); first | done | rfl | (simp only [List.length_drop, List.length_take]; rfl)) ?_; (with_reducible refine (crossroadslaw17_Small.calls k _ _ l0_0 _ _ l0_1 a0_2 a0_3 a0_4 true _ ?side1 ?side2 ?side3 ?side4 A6.out).mono ?_); (case side1 => repeat (first | exact (Kd.C_below HR0_0.out HB.out) | (with_reducible refine Kd.C_alloc ?_ _) | (with_reducible refine Kd.C_drewN ?_ _) | (with_reducible refine Kd.C_drew ?_))); (case side2 => exact HC0_0.out); (case side3 => repeat (first | exact (Kd.C_below HR0_1.out HB.out) | (with_reducible refine Kd.C_alloc ?_ _) | (with_reducible refine Kd.C_drewN ?_ _) | (with_reducible refine Kd.C_drew ?_))); (case side4 => exact HC0_1.out); rintro e w14 ⟨rfl, hb⟩; refine ⟨_, rfl, ?_⟩; have n0_ := Aside0.mk (blk_below (g := gb476) (o := .cells #[.slice A0_0 l0_0.length c0_0, .slice A0_1 l0_1.length c0_1, .int .i64 a0_2, .int .i64 a0_3, .int .i64 a0_4] 25 (0, 0)) (by (with_reducible repeat (first | refine blk_drewN ?_ _ | refine blk_drew ?_ | refine blk_alloc ?_ _)); exact BK476.out) hb); have n1_ := Aside0.mk (below_step (by repeat (first | (with_reducible first | exact HB.out | apply below_alloc | apply pw_below_drewN | apply below_drew1 | refine below_set ?_ GE476.out) | exact HB.out)) hb); clear BK476; clear HB; have BK476 := n0_; have HB := n1_; clear n0_ n1_; (try clear hb); (try clear hb2); (try clear hk); (try clear hi); have hcz15_0 : w14.cell? ⟨gb476, 0, none⟩ = some (.slice A0_0 l0_0.length c0_0) := (blk_cell BK476.out 0).trans rfl; have hcz15_1 : w14.cell? ⟨gb476, 1, none⟩ = some (.slice A0_1 l0_1.length c0_1) := (blk_cell BK476.out 1).trans rfl; have hcz15_2 : w14.cell? ⟨gb476, 2, none⟩ = some (.int .i64 a0_2) := (blk_cell BK476.out 2).trans rfl; have hcz15_3 : w14.cell? ⟨gb476, 3, none⟩ = some (.int .i64 a0_3) := (blk_cell BK476.out 3).trans rfl; have hcz15_4 : w14.cell? ⟨gb476, 4, none⟩ = some (.int .i64 a0_4) := (blk_cell BK476.out 4).trans rfl; have hfz15_0 := blk_frozen BK476.out 0; have hfz15_1 := blk_frozen BK476.out 1; have hfz15_2 := blk_frozen BK476.out 2; have hfz15_3 := blk_frozen BK476.out 3; have hfz15_4 := blk_frozen BK476.out 4) | ((with_reducible refine gate_callee (f := 11) rfl ?_); refine goesL_ (some 25) rfl rfl Try.func11 (by kernel_rfl) rfl #[.agg #[.slice A0_0 l0_0.length c0_0, .slice A0_1 l0_1.length c0_1, .int .i64 a0_2, .int .i64 a0_3, .int .i64 a0_4], .int .i64 (wrap64 (a1))] rfl (by (try simp only [List.map_toArray, List.map_cons, List.map_nil]); first | done | rfl | (simp only [List.length_drop, List.length_take]; rfl)) ?_; (with_reducible refine (class_Nth.calls _ _ l0_0 _ _ l0_1 a0_2 a0_3 a0_4 (wrap64 (a1)) t479 t482 t485 t488 _ ?side1 ?side2 ?side3 ?side4 A8.out).mono ?_); (case side1 => repeat (first | exact (Kd.C_below HR0_0.out HB.out) | (with_reducible refine Kd.C_alloc ?_ _) | (with_reducible refine Kd.C_drewN ?_ _) | (with_reducible refine Kd.C_drew ?_))); (case side2 => exact HC0_0.out); (case side3 => repeat (first | exact (Kd.C_below HR0_1.out HB.out) | (with_reducible refine Kd.C_alloc ?_ _) | (with_reducible refine Kd.C_drewN ?_ _) | (with_reducible refine Kd.C_drew ?_))); (case side4 => exact HC0_1.out); rintro e w16 ⟨v480, v483, v486, rfl, ho0, ho1, ho2, hb⟩; refine ⟨_, rfl, ?_⟩; have n0_ := Aside0.mk (Kd.V_lower (Kd.V_mono (ok' := fun k_ => k_ ≠ gb476) ho0 (fun k_ hk_ => (Kd.freshB (g := gb476) (o := .cells #[.slice A0_0 l0_0.length c0_0, .slice A0_1 l0_1.length c0_1, .int .i64 a0_2, .int .i64 a0_3, .int .i64 a0_4] 25 (0, 0)) (by (with_reducible repeat (first | refine blk_drewN ?_ _ | refine blk_drew ?_ | refine blk_alloc ?_ _)); exact BK476.out) k_ hk_))) (below_size (by repeat (first | (with_reducible first | exact HB.out | apply below_alloc | apply pw_below_drewN | apply below_drew1 | refine below_set ?_ GE476.out) | exact HB.out)))); have n1_ := Aside0.mk (Kd.V_lower (Kd.V_mono (ok' := fun k_ => k_ ≠ gb476) ho1 (fun k_ hk_ => (Kd.freshB (g := gb476) (o := .cells #[.slice A0_0 l0_0.length c0_0, .slice A0_1 l0_1.length c0_1, .int .i64 a0_2, .int .i64 a0_3, .int .i64 a0_4] 25 (0, 0)) (by (with_reducible repeat (first | refine blk_drewN ?_ _ | refine blk_drew ?_ | refine blk_alloc ?_ _)); exact BK476.out) k_ hk_))) (below_size (by repeat (first | (with_reducible first | exact HB.out | apply below_alloc | apply pw_below_drewN | apply below_drew1 | refine below_set ?_ GE476.out) | exact HB.out)))); have n2_ := Aside0.mk (Kd.V_lower (Kd.V_mono (ok' := fun k_ => k_ ≠ gb476) ho2 (fun k_ hk_ => (Kd.freshB (g := gb476) (o := .cells #[.slice A0_0 l0_0.length c0_0, .slice A0_1 l0_1.length c0_1, .int .i64 a0_2, .int .i64 a0_3, .int .i64 a0_4] 25 (0, 0)) (by (with_reducible repeat (first | refine blk_drewN ?_ _ | refine blk_drew ?_ | refine blk_alloc ?_ _)); exact BK476.out) k_ hk_))) (below_size (by repeat (first | (with_reducible first | exact HB.out | apply below_alloc | apply pw_below_drewN | apply below_drew1 | refine below_set ?_ GE476.out) | exact HB.out)))); have n3_ := Aside0.mk (blk_below (g := gb476) (o := .cells #[.slice A0_0 l0_0.length c0_0, .slice A0_1 l0_1.length c0_1, .int .i64 a0_2, .int .i64 a0_3, .int .i64 a0_4] 25 (0, 0)) (by (with_reducible repeat (first | refine blk_drewN ?_ _ | refine blk_drew ?_ | refine blk_alloc ?_ _)); exact BK476.out) hb); have n4_ := Aside0.mk (below_step (by repeat (first | (with_reducible first | exact HB.out | apply below_alloc | apply pw_below_drewN | apply below_drew1 | refine below_set ?_ GE476.out) | exact HB.out)) hb); clear BK476; clear HB; have HO481 := n0_; have HO484 := n1_; have HO487 := n2_; have BK476 := n3_; have HB := n4_; clear n0_ n1_ n2_ n3_ n4_; (try clear hb); (try clear hb2); (try clear hk); (try clear hi); (try clear ho0); (try clear ho1); (try clear ho2)) | ((with_reducible refine gate_dst (N := 7) rfl ?_); (try (refine gate_guard (by rfl) ?_; dsimp only)); refine box_event ?hg (N := 7) ?hd (cs := #[.slice none 0 0, .slice none 0 0, .slice none 0 0]) (t := 31) ?hr ?_; (case hd => rfl); (case hg => rfl); (case hr => first | (go_simp; done) | (go_simp; rfl)); intro gb489 hg w17 hbox hb; have n0_ := Aside0.mk (Kd.V_below (Kd.V_elderB (by (with_reducible repeat (first | apply Kd.V_alloc | apply Kd.V_drewN | apply Kd.V_drew)); exact HO481.out) gb489 (Nat.le_of_eq hg.symm)) hb); have n1_ := Aside0.mk (Kd.V_below (Kd.V_elderB (by (with_reducible repeat (first | apply Kd.V_alloc | apply Kd.V_drewN | apply Kd.V_drew)); exact HO484.out) gb489 (Nat.le_of_eq hg.symm)) hb); have n2_ := Aside0.mk (Kd.V_below (Kd.V_elderB (by (with_reducible repeat (first | apply Kd.V_alloc | apply Kd.V_drewN | apply Kd.V_drew)); exact HO487.out) gb489 (Nat.le_of_eq hg.symm)) hb); have n3_ := Aside0.mk (blk_below (g := gb476) (o := .cells #[.slice A0_0 l0_0.length c0_0, .slice A0_1 l0_1.length c0_1, .int .i64 a0_2, .int .i64 a0_3, .int .i64 a0_4] 25 (0, 0)) (by (with_reducible repeat (first | refine blk_drewN ?_ _ | refine blk_drew ?_ | refine blk_alloc ?_ _)); exact BK476.out) hb); have n4_ := Aside0.mk (below_step (by repeat (first | (with_reducible first | exact HB.out | apply below_alloc | apply pw_below_drewN | apply below_drew1 | refine below_set ?_ GE476.out) | exact HB.out)) hb); have n5_ := Aside0.mk (hbox); have n6_ := Aside0.mk ((by rw [hg]; exact (below_size (by repeat (first | (with_reducible first | exact HB.out | apply below_alloc | apply pw_below_drewN | apply below_drew1 | refine below_set ?_ GE476.out) | exact HB.out))) : w.heap.size ≤ gb489)); have n7_ := Aside0.mk ((by rw [hg]; exact (below_size (by repeat (first | (with_reducible first | exact HB.out | apply below_alloc | apply pw_below_drewN | apply below_drew1 | refine below_set ?_ GE476.out) | exact HB.out))) : w.heap.size ≤ gb489)); have n8_ := Aside0.mk ((by rw [hg]; exact Nat.ne_of_lt (blk_lt (g := gb476) (o := .cells #[.slice A0_0 l0_0.length c0_0, .slice A0_1 l0_1.length c0_1, .int .i64 a0_2, .int .i64 a0_3, .int .i64 a0_4] 25 (0, 0)) (by (with_reducible repeat (first | refine blk_drewN ?_ _ | refine blk_drew ?_ | refine blk_alloc ?_ _)); exact BK476.out)) : gb476 ≠ gb489)); have n9_ := Aside0.mk ((by rw [hg]; exact Nat.ne_of_gt (blk_lt (g := gb476) (o := .cells #[.slice A0_0 l0_0.length c0_0, .slice A0_1 l0_1.length c0_1, .int .i64 a0_2, .int .i64 a0_3, .int .i64 a0_4] 25 (0, 0)) (by (with_reducible repeat (first | refine blk_drewN ?_ _ | refine blk_drew ?_ | refine blk_alloc ?_ _)); exact BK476.out)) : gb489 ≠ gb476)); clear HO481; clear HO484; clear HO487; clear BK476; clear HB; have HO481 := n0_; have HO484 := n1_; have HO487 := n2_; have BK476 := n3_; have HB := n4_; have BK489 := n5_; have GW489 := n6_; have GE489 := n7_; have NB476_489 := n8_; have NB489_476 := n9_; clear n0_ n1_ n2_ n3_ n4_ n5_ n6_ n7_ n8_ n9_; clear hb hbox hg; obtain ⟨Ao18, co18, eo18⟩ := Kd.V_slice HO481.out; subst eo18; have hnb19 := NB489_476.out; have hnc19 := NB476_489.out; have hcz20_0 : w17.cell? ⟨gb489, 0, none⟩ = some (.slice none 0 0) := (blk_cell BK489.out 0).trans rfl; have hcz20_1 : w17.cell? ⟨gb489, 1, none⟩ = some (.slice none 0 0) := (blk_cell BK489.out 1).trans rfl; have hcz20_2 : w17.cell? ⟨gb489, 2, none⟩ = some (.slice none 0 0) := (blk_cell BK489.out 2).trans rfl; have hfz20_0 := blk_frozen BK489.out 0; have hfz20_1 := blk_frozen BK489.out 1; have hfz20_2 := blk_frozen BK489.out 2; obtain ⟨Ao21, co21, eo21⟩ := Kd.V_slice HO484.out; subst eo21; obtain ⟨Ao22, co22, eo22⟩ := Kd.V_slice HO487.out; subst eo22; have hcz23_0 : w17.cell? ⟨gb476, 0, none⟩ = some (.slice A0_0 l0_0.length c0_0) := (blk_cell BK476.out 0).trans rfl; have hcz23_1 : w17.cell? ⟨gb476, 1, none⟩ = some (.slice A0_1 l0_1.length c0_1) := (blk_cell BK476.out 1).trans rfl; have hcz23_2 : w17.cell? ⟨gb476, 2, none⟩ = some (.int .i64 a0_2) := (blk_cell BK476.out 2).trans rfl; have hcz23_3 : w17.cell? ⟨gb476, 3, none⟩ = some (.int .i64 a0_3) := (blk_cell BK476.out 3).trans rfl; have hcz23_4 : w17.cell? ⟨gb476, 4, none⟩ = some (.int .i64 a0_4) := (blk_cell BK476.out 4).trans rfl; have hfz23_0 := blk_frozen BK476.out 0; have hfz23_1 := blk_frozen BK476.out 1; have hfz23_2 := blk_frozen BK476.out 2; have hfz23_3 := blk_frozen BK476.out 3; have hfz23_4 := blk_frozen BK476.out 4) | ((with_reducible refine gate_callee (f := 11) rfl ?_); refine goesL_ (some 32) rfl rfl Try.func11 (by kernel_rfl) rfl #[.agg #[.slice A0_0 l0_0.length c0_0, .slice A0_1 l0_1.length c0_1, .int .i64 a0_2, .int .i64 a0_3, .int .i64 a0_4], .int .i64 (wrap64 (a2))] rfl (by (try simp only [List.map_toArray, List.map_cons, List.map_nil]); first | done | rfl | (simp only [List.length_drop, List.length_take]; rfl)) ?_; (with_reducible refine (class_Nth.calls _ _ l0_0 _ _ l0_1 a0_2 a0_3 a0_4 (wrap64 (a2)) t490 t493 t496 t499 _ ?side1 ?side2 ?side3 ?side4 A9.out).mono ?_); (case side1 => exact Kd.C_below HR0_0.out (by repeat (first | (with_reducible first | exact HB.out | apply below_alloc | apply pw_below_drewN | apply below_drew1 | refine below_set ?_ GE476.out | refine below_set ?_ GE489.out) | exact HB.out))); (case side2 => exact HC0_0.out); (case side3 => exact Kd.C_below HR0_1.out (by repeat (first | (with_reducible first | exact HB.out | apply below_alloc | apply pw_below_drewN | apply below_drew1 | refine below_set ?_ GE476.out | refine below_set ?_ GE489.out) | exact HB.out))); (case side4 => exact HC0_1.out); rintro e w24 ⟨v491, v494, v497, rfl, ho0, ho1, ho2, hb⟩; refine ⟨_, rfl, ?_⟩; have n0_ := Aside0.mk (Kd.V_below (by (with_reducible repeat (first | apply Kd.V_alloc | apply Kd.V_drewN | apply Kd.V_drew)); exact (Kd.V_mono (Kd.V_far (p := ⟨gb489, 2, none⟩) (Kd.V_far (p := ⟨gb489, 1, none⟩) (Kd.V_far (p := ⟨gb489, 0, none⟩) (Kd.V_mono HO481.out (fun k_ hk => (⟨hk, hk.2⟩ : _ ∧ k_ ≠ gb489))) (fun _ hk => hk.2) (.slice Ao18 t479.length co18)) (fun _ hk => hk.2) (.slice Ao21 t482.length co21)) (fun _ hk => hk.2) (.slice Ao22 t485.length co22)) (fun _ h_ => h_.1))) hb); have n1_ := Aside0.mk (Kd.V_below (by (with_reducible repeat (first | apply Kd.V_alloc | apply Kd.V_drewN | apply Kd.V_drew)); exact (Kd.V_mono (Kd.V_far (p := ⟨gb489, 2, none⟩) (Kd.V_far (p := ⟨gb489, 1, none⟩) (Kd.V_far (p := ⟨gb489, 0, none⟩) (Kd.V_mono HO484.out (fun k_ hk => (⟨hk, hk.2⟩ : _ ∧ k_ ≠ gb489))) (fun _ hk => hk.2) (.slice Ao18 t479.length co18)) (fun _ hk => hk.2) (.slice Ao21 t482.length co21)) (fun _ hk => hk.2) (.slice Ao22 t485.length co22)) (fun _ h_ => h_.1))) hb); have n2_ := Aside0.mk (Kd.V_below (by (with_reducible repeat (first | apply Kd.V_alloc | apply Kd.V_drewN | apply Kd.V_drew)); exact (Kd.V_mono (Kd.V_far (p := ⟨gb489, 2, none⟩) (Kd.V_far (p := ⟨gb489, 1, none⟩) (Kd.V_far (p := ⟨gb489, 0, none⟩) (Kd.V_mono HO487.out (fun k_ hk => (⟨hk, hk.2⟩ : _ ∧ k_ ≠ gb489))) (fun _ hk => hk.2) (.slice Ao18 t479.length co18)) (fun _ hk => hk.2) (.slice Ao21 t482.length co21)) (fun _ hk => hk.2) (.slice Ao22 t485.length co22)) (fun _ h_ => h_.1))) hb); have n3_ := Aside0.mk (Kd.V_lower (Kd.V_mono (ok' := fun k_ => k_ ≠ gb476 ∧ k_ ≠ gb489) ho0 (fun k_ hk_ => ⟨(Kd.freshB (g := gb476) (o := .cells #[.slice A0_0 l0_0.length c0_0, .slice A0_1 l0_1.length c0_1, .int .i64 a0_2, .int .i64 a0_3, .int .i64 a0_4] 25 (0, 0)) (by (with_reducible repeat (first | refine blk_drewN ?_ _ | refine blk_drew ?_ | refine blk_alloc ?_ _)); refine blk_far ?_ NB476_489.out _; (with_reducible repeat (first | refine blk_drewN ?_ _ | refine blk_drew ?_ | refine blk_alloc ?_ _)); refine blk_far ?_ NB476_489.out _; (with_reducible repeat (first | refine blk_drewN ?_ _ | refine blk_drew ?_ | refine blk_alloc ?_ _)); refine blk_far ?_ NB476_489.out _; (with_reducible repeat (first | refine blk_drewN ?_ _ | refine blk_drew ?_ | refine blk_alloc ?_ _)); exact BK476.out) k_ hk_), (Kd.freshB (g := gb489) (o := .cells #[.slice Ao18 t479.length co18, .slice Ao21 t482.length co21, .slice Ao22 t485.length co22] 31 (0, 0)) (by (with_reducible repeat (first | refine blk_drewN ?_ _ | refine blk_drew ?_ | refine blk_alloc ?_ _)); refine blk_put (cs := #[.slice Ao18 t479.length co18, .slice Ao21 t482.length co21, .slice none 0 0]) ?_ 2 _ rfl; (with_reducible repeat (first | refine blk_drewN ?_ _ | refine blk_drew ?_ | refine blk_alloc ?_ _)); refine blk_put (cs := #[.slice Ao18 t479.length co18, .slice none 0 0, .slice none 0 0]) ?_ 1 _ rfl; (with_reducible repeat (first | refine blk_drewN ?_ _ | refine blk_drew ?_ | refine blk_alloc ?_ _)); refine blk_put (cs := #[.slice none 0 0, .slice none 0 0, .slice none 0 0]) ?_ 0 _ rfl; (with_reducible repeat (first | refine blk_drewN ?_ _ | refine blk_drew ?_ | refine blk_alloc ?_ _)); exact BK489.out) k_ hk_)⟩)) (below_size (by repeat (first | (with_reducible first | exact HB.out | apply below_alloc | apply pw_below_drewN | apply below_drew1 | refine below_set ?_ GE476.out | refine below_set ?_ GE489.out) | exact HB.out)))); have n4_ := Aside0.mk (Kd.V_lower (Kd.V_mono (ok' := fun k_ => k_ ≠ gb476 ∧ k_ ≠ gb489) ho1 (fun k_ hk_ => ⟨(Kd.freshB (g := gb476) (o := .cells #[.slice A0_0 l0_0.length c0_0, .slice A0_1 l0_1.length c0_1, .int .i64 a0_2, .int .i64 a0_3, .int .i64 a0_4] 25 (0, 0)) (by (with_reducible repeat (first | refine blk_drewN ?_ _ | refine blk_drew ?_ | refine blk_alloc ?_ _)); refine blk_far ?_ NB476_489.out _; (with_reducible repeat (first | refine blk_drewN ?_ _ | refine blk_drew ?_ | refine blk_alloc ?_ _)); refine blk_far ?_ NB476_489.out _; (with_reducible repeat (first | refine blk_drewN ?_ _ | refine blk_drew ?_ | refine blk_alloc ?_ _)); refine blk_far ?_ NB476_489.out _; (with_reducible repeat (first | refine blk_drewN ?_ _ | refine blk_drew ?_ | refine blk_alloc ?_ _)); exact BK476.out) k_ hk_), (Kd.freshB (g := gb489) (o := .cells #[.slice Ao18 t479.length co18, .slice Ao21 t482.length co21, .slice Ao22 t485.length co22] 31 (0, 0)) (by (with_reducible repeat (first | refine blk_drewN ?_ _ | refine blk_drew ?_ | refine blk_alloc ?_ _)); refine blk_put (cs := #[.slice Ao18 t479.length co18, .slice Ao21 t482.length co21, .slice none 0 0]) ?_ 2 _ rfl; (with_reducible repeat (first | refine blk_drewN ?_ _ | refine blk_drew ?_ | refine blk_alloc ?_ _)); refine blk_put (cs := #[.slice Ao18 t479.length co18, .slice none 0 0, .slice none 0 0]) ?_ 1 _ rfl; (with_reducible repeat (first | refine blk_drewN ?_ _ | refine blk_drew ?_ | refine blk_alloc ?_ _)); refine blk_put (cs := #[.slice none 0 0, .slice none 0 0, .slice none 0 0]) ?_ 0 _ rfl; (with_reducible repeat (first | refine blk_drewN ?_ _ | refine blk_drew ?_ | refine blk_alloc ?_ _)); exact BK489.out) k_ hk_)⟩)) (below_size (by repeat (first | (with_reducible first | exact HB.out | apply below_alloc | apply pw_below_drewN | apply below_drew1 | refine below_set ?_ GE476.out | refine below_set ?_ GE489.out) | exact HB.out)))); have n5_ := Aside0.mk (Kd.V_lower (Kd.V_mono (ok' := fun k_ => k_ ≠ gb476 ∧ k_ ≠ gb489) ho2 (fun k_ hk_ => ⟨(Kd.freshB (g := gb476) (o := .cells #[.slice A0_0 l0_0.length c0_0, .slice A0_1 l0_1.length c0_1, .int .i64 a0_2, .int .i64 a0_3, .int .i64 a0_4] 25 (0, 0)) (by (with_reducible repeat (first | refine blk_drewN ?_ _ | refine blk_drew ?_ | refine blk_alloc ?_ _)); refine blk_far ?_ NB476_489.out _; (with_reducible repeat (first | refine blk_drewN ?_ _ | refine blk_drew ?_ | refine blk_alloc ?_ _)); refine blk_far ?_ NB476_489.out _; (with_reducible repeat (first | refine blk_drewN ?_ _ | refine blk_drew ?_ | refine blk_alloc ?_ _)); refine blk_far ?_ NB476_489.out _; (with_reducible repeat (first | refine blk_drewN ?_ _ | refine blk_drew ?_ | refine blk_alloc ?_ _)); exact BK476.out) k_ hk_), (Kd.freshB (g := gb489) (o := .cells #[.slice Ao18 t479.length co18, .slice Ao21 t482.length co21, .slice Ao22 t485.length co22] 31 (0, 0)) (by (with_reducible repeat (first | refine blk_drewN ?_ _ | refine blk_drew ?_ | refine blk_alloc ?_ _)); refine blk_put (cs := #[.slice Ao18 t479.length co18, .slice Ao21 t482.length co21, .slice none 0 0]) ?_ 2 _ rfl; (with_reducible repeat (first | refine blk_drewN ?_ _ | refine blk_drew ?_ | refine blk_alloc ?_ _)); refine blk_put (cs := #[.slice Ao18 t479.length co18, .slice none 0 0, .slice none 0 0]) ?_ 1 _ rfl; (with_reducible repeat (first | refine blk_drewN ?_ _ | refine blk_drew ?_ | refine blk_alloc ?_ _)); refine blk_put (cs := #[.slice none 0 0, .slice none 0 0, .slice none 0 0]) ?_ 0 _ rfl; (with_reducible repeat (first | refine blk_drewN ?_ _ | refine blk_drew ?_ | refine blk_alloc ?_ _)); exact BK489.out) k_ hk_)⟩)) (below_size (by repeat (first | (with_reducible first | exact HB.out | apply below_alloc | apply pw_below_drewN | apply below_drew1 | refine below_set ?_ GE476.out | refine below_set ?_ GE489.out) | exact HB.out)))); have n6_ := Aside0.mk (blk_below (g := gb476) (o := .cells #[.slice A0_0 l0_0.length c0_0, .slice A0_1 l0_1.length c0_1, .int .i64 a0_2, .int .i64 a0_3, .int .i64 a0_4] 25 (0, 0)) (by (with_reducible repeat (first | refine blk_drewN ?_ _ | refine blk_drew ?_ | refine blk_alloc ?_ _)); refine blk_far ?_ NB476_489.out _; (with_reducible repeat (first | refine blk_drewN ?_ _ | refine blk_drew ?_ | refine blk_alloc ?_ _)); refine blk_far ?_ NB476_489.out _; (with_reducible repeat (first | refine blk_drewN ?_ _ | refine blk_drew ?_ | refine blk_alloc ?_ _)); refine blk_far ?_ NB476_489.out _; (with_reducible repeat (first | refine blk_drewN ?_ _ | refine blk_drew ?_ | refine blk_alloc ?_ _)); exact BK476.out) hb); have n7_ := Aside0.mk (blk_below (g := gb489) (o := .cells #[.slice Ao18 t479.length co18, .slice Ao21 t482.length co21, .slice Ao22 t485.length co22] 31 (0, 0)) (by (with_reducible repeat (first | refine blk_drewN ?_ _ | refine blk_drew ?_ | refine blk_alloc ?_ _)); refine blk_put (cs := #[.slice Ao18 t479.length co18, .slice Ao21 t482.length co21, .slice none 0 0]) ?_ 2 _ rfl; (with_reducible repeat (first | refine blk_drewN ?_ _ | refine blk_drew ?_ | refine blk_alloc ?_ _)); refine blk_put (cs := #[.slice Ao18 t479.length co18, .slice none 0 0, .slice none 0 0]) ?_ 1 _ rfl; (with_reducible repeat (first | refine blk_drewN ?_ _ | refine blk_drew ?_ | refine blk_alloc ?_ _)); refine blk_put (cs := #[.slice none 0 0, .slice none 0 0, .slice none 0 0]) ?_ 0 _ rfl; (with_reducible repeat (first | refine blk_drewN ?_ _ | refine blk_drew ?_ | refine blk_alloc ?_ _)); exact BK489.out) hb); have n8_ := Aside0.mk (below_step (by repeat (first | (with_reducible first | exact HB.out | apply below_alloc | apply pw_below_drewN | apply below_drew1 | refine below_set ?_ GE476.out | refine below_set ?_ GE489.out) | exact HB.out)) hb); clear HO481; clear HO484; clear HO487; clear BK476; clear BK489; clear HB; have HO481 := n0_; have HO484 := n1_; have HO487 := n2_; have HO492 := n3_; have HO495 := n4_; have HO498 := n5_; have BK476 := n6_; have BK489 := n7_; have HB := n8_; clear n0_ n1_ n2_ n3_ n4_ n5_ n6_ n7_ n8_; (try clear hb); (try clear hb2); (try clear hk); (try clear hi); (try clear ho0); (try clear ho1); (try clear ho2)) | ((with_reducible refine gate_dst (N := 9) rfl ?_); (try (refine gate_guard (by rfl) ?_; dsimp only)); refine box_event ?hg (N := 9) ?hd (cs := #[.slice none 0 0, .slice none 0 0, .slice none 0 0]) (t := 31) ?hr ?_; (case hd => rfl); (case hg => rfl); (case hr => first | (go_simp; done) | (go_simp; rfl)); intro gb500 hg w25 hbox hb; have n0_ := Aside0.mk (Kd.V_below (Kd.V_elderB (by (with_reducible repeat (first | apply Kd.V_alloc | apply Kd.V_drewN | apply Kd.V_drew)); exact HO481.out) gb500 (Nat.le_of_eq hg.symm)) hb); have n1_ := Aside0.mk (Kd.V_below (Kd.V_elderB (by (with_reducible repeat (first | apply Kd.V_alloc | apply Kd.V_drewN | apply Kd.V_drew)); exact HO484.out) gb500 (Nat.le_of_eq hg.symm)) hb); have n2_ := Aside0.mk (Kd.V_below (Kd.V_elderB (by (with_reducible repeat (first | apply Kd.V_alloc | apply Kd.V_drewN | apply Kd.V_drew)); exact HO487.out) gb500 (Nat.le_of_eq hg.symm)) hb); have n3_ := Aside0.mk (Kd.V_below (Kd.V_elderB (by (with_reducible repeat (first | apply Kd.V_alloc | apply Kd.V_drewN | apply Kd.V_drew)); exact HO492.out) gb500 (Nat.le_of_eq hg.symm)) hb); have n4_ := Aside0.mk (Kd.V_below (Kd.V_elderB (by (with_reducible repeat (first | apply Kd.V_alloc | apply Kd.V_drewN | apply Kd.V_drew)); exact HO495.out) gb500 (Nat.le_of_eq hg.symm)) hb); have n5_ := Aside0.mk (Kd.V_below (Kd.V_elderB (by (with_reducible repeat (first | apply Kd.V_alloc | apply Kd.V_drewN | apply Kd.V_drew)); exact HO498.out) gb500 (Nat.le_of_eq hg.symm)) hb); have n6_ := Aside0.mk (blk_below (g := gb476) (o := .cells #[.slice A0_0 l0_0.length c0_0, .slice A0_1 l0_1.length c0_1, .int .i64 a0_2, .int .i64 a0_3, .int .i64 a0_4] 25 (0, 0)) (by (with_reducible repeat (first | refine blk_drewN ?_ _ | refine blk_drew ?_ | refine blk_alloc ?_ _)); exact BK476.out) hb); have n7_ := Aside0.mk (blk_below (g := gb489) (o := .cells #[.slice Ao18 t479.length co18, .slice Ao21 t482.length co21, .slice Ao22 t485.length co22] 31 (0, 0)) (by (with_reducible repeat (first | refine blk_drewN ?_ _ | refine blk_drew ?_ | refine blk_alloc ?_ _)); exact BK489.out) hb); have n8_ := Aside0.mk (below_step (by repeat (first | (with_reducible first | exact HB.out | apply below_alloc | apply pw_below_drewN | apply below_drew1 | refine below_set ?_ GE476.out | refine below_set ?_ GE489.out) | exact HB.out)) hb); have n9_ := Aside0.mk (hbox); have n10_ := Aside0.mk ((by rw [hg]; exact (below_size (by repeat (first | (with_reducible first | exact HB.out | apply below_alloc | apply pw_below_drewN | apply below_drew1 | refine below_set ?_ GE476.out | refine below_set ?_ GE489.out) | exact HB.out))) : w.heap.size ≤ gb500)); have n11_ := Aside0.mk ((by rw [hg]; exact (below_size (by repeat (first | (with_reducible first | exact HB.out | apply below_alloc | apply pw_below_drewN | apply below_drew1 | refine below_set ?_ GE476.out | refine below_set ?_ GE489.out) | exact HB.out))) : w.heap.size ≤ gb500)); have n12_ := Aside0.mk ((by rw [hg]; exact Nat.ne_of_lt (blk_lt (g := gb476) (o := .cells #[.slice A0_0 l0_0.length c0_0, .slice A0_1 l0_1.length c0_1, .int .i64 a0_2, .int .i64 a0_3, .int .i64 a0_4] 25 (0, 0)) (by (with_reducible repeat (first | refine blk_drewN ?_ _ | refine blk_drew ?_ | refine blk_alloc ?_ _)); exact BK476.out)) : gb476 ≠ gb500)); have n13_ := Aside0.mk ((by rw [hg]; exact Nat.ne_of_gt (blk_lt (g := gb476) (o := .cells #[.slice A0_0 l0_0.length c0_0, .slice A0_1 l0_1.length c0_1, .int .i64 a0_2, .int .i64 a0_3, .int .i64 a0_4] 25 (0, 0)) (by (with_reducible repeat (first | refine blk_drewN ?_ _ | refine blk_drew ?_ | refine blk_alloc ?_ _)); exact BK476.out)) : gb500 ≠ gb476)); have n14_ := Aside0.mk ((by rw [hg]; exact Nat.ne_of_lt (blk_lt (g := gb489) (o := .cells #[.slice Ao18 t479.length co18, .slice Ao21 t482.length co21, .slice Ao22 t485.length co22] 31 (0, 0)) (by (with_reducible repeat (first | refine blk_drewN ?_ _ | refine blk_drew ?_ | refine blk_alloc ?_ _)); exact BK489.out)) : gb489 ≠ gb500)); have n15_ := Aside0.mk ((by rw [hg]; exact Nat.ne_of_gt (blk_lt (g := gb489) (o := .cells #[.slice Ao18 t479.length co18, .slice Ao21 t482.length co21, .slice Ao22 t485.length co22] 31 (0, 0)) (by (with_reducible repeat (first | refine blk_drewN ?_ _ | refine blk_drew ?_ | refine blk_alloc ?_ _)); exact BK489.out)) : gb500 ≠ gb489)); clear HO481; clear HO484; clear HO487; clear HO492; clear HO495; clear HO498; clear BK476; clear BK489; clear HB; have HO481 := n0_; have HO484 := n1_; have HO487 := n2_; have HO492 := n3_; have HO495 := n4_; have HO498 := n5_; have BK476 := n6_; have BK489 := n7_; have HB := n8_; have BK500 := n9_; have GW500 := n10_; have GE500 := n11_; have NB476_500 := n12_; have NB500_476 := n13_; have NB489_500 := n14_; have NB500_489 := n15_; clear n0_ n1_ n2_ n3_ n4_ n5_ n6_ n7_ n8_ n9_ n10_ n11_ n12_ n13_ n14_ n15_; clear hb hbox hg; obtain ⟨Ao26, co26, eo26⟩ := Kd.V_slice HO492.out; subst eo26; have hnb27 := NB500_476.out; have hnc27 := NB476_500.out; have hnb28 := NB500_489.out; have hnc28 := NB489_500.out; have hcz29_0 : w25.cell? ⟨gb500, 0, none⟩ = some (.slice none 0 0) := (blk_cell BK500.out 0).trans rfl; have hcz29_1 : w25.cell? ⟨gb500, 1, none⟩ = some (.slice none 0 0) := (blk_cell BK500.out 1).trans rfl; have hcz29_2 : w25.cell? ⟨gb500, 2, none⟩ = some (.slice none 0 0) := (blk_cell BK500.out 2).trans rfl; have hfz29_0 := blk_frozen BK500.out 0; have hfz29_1 := blk_frozen BK500.out 1; have hfz29_2 := blk_frozen BK500.out 2; obtain ⟨Ao30, co30, eo30⟩ := Kd.V_slice HO495.out; subst eo30; obtain ⟨Ao31, co31, eo31⟩ := Kd.V_slice HO498.out; subst eo31))
   (try simp only [Act.put, List.setIfInBounds_toArray, List.set_cons_zero, List.set_cons_succ])
   go_cut [40] (fun v40 wc => ∃ (kq : Nat) (x40_9 : Bool), v40 = .bool x40_9 ∧ Aside0 (crossroadslaw17_ClassApart.j0 kq a1 a2 x40_9 l0_0 l0_1 a0_2 a0_3 a0_4 t479 t482 t485 t490 t493 t496 = some r) ∧ Aside0 (kq ≤ k) ∧ Aside0 (Kd.V (Kd.slice 5 (Kd.int .u8)) 42 wc w.heap.size (fun k_ => k_ ≠ gb476 ∧ k_ ≠ gb489 ∧ k_ ≠ gb500) (.slice Ao18 t479.length co18) t479) ∧ Aside0 (Kd.V (Kd.slice 5 (Kd.int .u8)) 42 wc w.heap.size (fun k_ => k_ ≠ gb476 ∧ k_ ≠ gb489 ∧ k_ ≠ gb500) (.slice Ao21 t482.length co21) t482) ∧ Aside0 (Kd.V Kd.bool 4 wc w.heap.size (fun k_ => k_ ≠ gb476 ∧ k_ ≠ gb489 ∧ k_ ≠ gb500) (.slice Ao22 t485.length co22) t485) ∧ Aside0 (Kd.V (Kd.slice 5 (Kd.int .u8)) 42 wc w.heap.size (fun k_ => k_ ≠ gb476 ∧ k_ ≠ gb489 ∧ k_ ≠ gb500) (.slice Ao26 t490.length co26) t490) ∧ Aside0 (Kd.V (Kd.slice 5 (Kd.int .u8)) 42 wc w.heap.size (fun k_ => k_ ≠ gb476 ∧ k_ ≠ gb489 ∧ k_ ≠ gb500) (.slice Ao30 t493.length co30) t493) ∧ Aside0 (Kd.V Kd.bool 4 wc w.heap.size (fun k_ => k_ ≠ gb476 ∧ k_ ≠ gb489 ∧ k_ ≠ gb500) (.slice Ao31 t496.length co31) t496) ∧ Aside0 (wc.heap[gb476]? = some (.cells #[(.slice A0_0 l0_0.length c0_0), (.slice A0_1 l0_1.length c0_1), .int .i64 a0_2, .int .i64 a0_3, .int .i64 a0_4] 25 (0, 0))) ∧ Aside0 (wc.heap[gb489]? = some (.cells #[(.slice Ao18 t479.length co18), (.slice Ao21 t482.length co21), (.slice Ao22 t485.length co22)] 31 (0, 0))) ∧ Aside0 (wc.heap[gb500]? = some (.cells #[(.slice Ao26 t490.length co26), (.slice Ao30 t493.length co30), (.slice Ao31 t496.length co31)] 31 (0, 0))) ∧ Aside0 (Below w.heap.size w wc))
   case first =>
    have H := HC10.out
    clear HC10
    by_cases c32 : t488 = true
    ·subst c32
     have H1 : (crossroadslaw17_ClassApart.j0 k a1 a2 (!t499) l0_0 l0_1 a0_2 a0_3 a0_4 t479 t482 t485 t490 t493 t496) = some r := by rw [if_pos rfl] at H; exact H
     clear H
     have H := H1
     clear H1
     have H' := Aside0.mk H
     clear H
     go_wp2
     go_meet
     case rel => exact ⟨_, (!t499), (by first | rfl | (simp; done) | (simp [*]; done)), H', ⟨by first | omega | exact Nat.le_refl _⟩, ⟨by (with_reducible repeat (first | apply Kd.V_alloc | apply Kd.V_drewN | apply Kd.V_drew)); exact Kd.V_mono (Kd.V_far (p := ⟨gb500, 2, none⟩) (Kd.V_far (p := ⟨gb500, 1, none⟩) (Kd.V_far (p := ⟨gb500, 0, none⟩) (Kd.V_mono HO481.out (fun k_ hk => (⟨hk, hk.2⟩ : _ ∧ k_ ≠ gb500))) (fun _ hk => hk.2) (.slice Ao26 t490.length co26)) (fun _ hk => hk.2) (.slice Ao30 t493.length co30)) (fun _ hk => hk.2) (.slice Ao31 t496.length co31)) (fun _ hk => ⟨hk.1.1.1, ⟨hk.1.1.2, hk.1.2⟩⟩)⟩, ⟨by (with_reducible repeat (first | apply Kd.V_alloc | apply Kd.V_drewN | apply Kd.V_drew)); exact Kd.V_mono (Kd.V_far (p := ⟨gb500, 2, none⟩) (Kd.V_far (p := ⟨gb500, 1, none⟩) (Kd.V_far (p := ⟨gb500, 0, none⟩) (Kd.V_mono HO484.out (fun k_ hk => (⟨hk, hk.2⟩ : _ ∧ k_ ≠ gb500))) (fun _ hk => hk.2) (.slice Ao26 t490.length co26)) (fun _ hk => hk.2) (.slice Ao30 t493.length co30)) (fun _ hk => hk.2) (.slice Ao31 t496.length co31)) (fun _ hk => ⟨hk.1.1.1, ⟨hk.1.1.2, hk.1.2⟩⟩)⟩, ⟨by (with_reducible repeat (first | apply Kd.V_alloc | apply Kd.V_drewN | apply Kd.V_drew)); exact Kd.V_mono (Kd.V_far (p := ⟨gb500, 2, none⟩) (Kd.V_far (p := ⟨gb500, 1, none⟩) (Kd.V_far (p := ⟨gb500, 0, none⟩) (Kd.V_mono HO487.out (fun k_ hk => (⟨hk, hk.2⟩ : _ ∧ k_ ≠ gb500))) (fun _ hk => hk.2) (.slice Ao26 t490.length co26)) (fun _ hk => hk.2) (.slice Ao30 t493.length co30)) (fun _ hk => hk.2) (.slice Ao31 t496.length co31)) (fun _ hk => ⟨hk.1.1.1, ⟨hk.1.1.2, hk.1.2⟩⟩)⟩, ⟨by (with_reducible repeat (first | apply Kd.V_alloc | apply Kd.V_drewN | apply Kd.V_drew)); exact Kd.V_mono (Kd.V_far (p := ⟨gb500, 2, none⟩) (Kd.V_far (p := ⟨gb500, 1, none⟩) (Kd.V_far (p := ⟨gb500, 0, none⟩) (Kd.V_mono HO492.out (fun k_ hk => (⟨hk, hk.2⟩ : _ ∧ k_ ≠ gb500))) (fun _ hk => hk.2) (.slice Ao26 t490.length co26)) (fun _ hk => hk.2) (.slice Ao30 t493.length co30)) (fun _ hk => hk.2) (.slice Ao31 t496.length co31)) (fun _ hk => ⟨hk.1.1.1, ⟨hk.1.1.2, hk.1.2⟩⟩)⟩, ⟨by (with_reducible repeat (first | apply Kd.V_alloc | apply Kd.V_drewN | apply Kd.V_drew)); exact Kd.V_mono (Kd.V_far (p := ⟨gb500, 2, none⟩) (Kd.V_far (p := ⟨gb500, 1, none⟩) (Kd.V_far (p := ⟨gb500, 0, none⟩) (Kd.V_mono HO495.out (fun k_ hk => (⟨hk, hk.2⟩ : _ ∧ k_ ≠ gb500))) (fun _ hk => hk.2) (.slice Ao26 t490.length co26)) (fun _ hk => hk.2) (.slice Ao30 t493.length co30)) (fun _ hk => hk.2) (.slice Ao31 t496.length co31)) (fun _ hk => ⟨hk.1.1.1, ⟨hk.1.1.2, hk.1.2⟩⟩)⟩, ⟨by (with_reducible repeat (first | apply Kd.V_alloc | apply Kd.V_drewN | apply Kd.V_drew)); exact Kd.V_mono (Kd.V_far (p := ⟨gb500, 2, none⟩) (Kd.V_far (p := ⟨gb500, 1, none⟩) (Kd.V_far (p := ⟨gb500, 0, none⟩) (Kd.V_mono HO498.out (fun k_ hk => (⟨hk, hk.2⟩ : _ ∧ k_ ≠ gb500))) (fun _ hk => hk.2) (.slice Ao26 t490.length co26)) (fun _ hk => hk.2) (.slice Ao30 t493.length co30)) (fun _ hk => hk.2) (.slice Ao31 t496.length co31)) (fun _ hk => ⟨hk.1.1.1, ⟨hk.1.1.2, hk.1.2⟩⟩)⟩, ⟨by (with_reducible repeat (first | refine blk_drewN ?_ _ | refine blk_drew ?_ | refine blk_alloc ?_ _)); refine blk_far ?_ NB476_500.out _; (with_reducible repeat (first | refine blk_drewN ?_ _ | refine blk_drew ?_ | refine blk_alloc ?_ _)); refine blk_far ?_ NB476_500.out _; (with_reducible repeat (first | refine blk_drewN ?_ _ | refine blk_drew ?_ | refine blk_alloc ?_ _)); refine blk_far ?_ NB476_500.out _; (with_reducible repeat (first | refine blk_drewN ?_ _ | refine blk_drew ?_ | refine blk_alloc ?_ _)); exact BK476.out⟩, ⟨by (with_reducible repeat (first | refine blk_drewN ?_ _ | refine blk_drew ?_ | refine blk_alloc ?_ _)); refine blk_far ?_ NB489_500.out _; (with_reducible repeat (first | refine blk_drewN ?_ _ | refine blk_drew ?_ | refine blk_alloc ?_ _)); refine blk_far ?_ NB489_500.out _; (with_reducible repeat (first | refine blk_drewN ?_ _ | refine blk_drew ?_ | refine blk_alloc ?_ _)); refine blk_far ?_ NB489_500.out _; (with_reducible repeat (first | refine blk_drewN ?_ _ | refine blk_drew ?_ | refine blk_alloc ?_ _)); exact BK489.out⟩, ⟨by (with_reducible repeat (first | refine blk_drewN ?_ _ | refine blk_drew ?_ | refine blk_alloc ?_ _)); refine blk_put (cs := #[.slice Ao26 t490.length co26, .slice Ao30 t493.length co30, .slice none 0 0]) ?_ 2 _ rfl; (with_reducible repeat (first | refine blk_drewN ?_ _ | refine blk_drew ?_ | refine blk_alloc ?_ _)); refine blk_put (cs := #[.slice Ao26 t490.length co26, .slice none 0 0, .slice none 0 0]) ?_ 1 _ rfl; (with_reducible repeat (first | refine blk_drewN ?_ _ | refine blk_drew ?_ | refine blk_alloc ?_ _)); refine blk_put (cs := #[.slice none 0 0, .slice none 0 0, .slice none 0 0]) ?_ 0 _ rfl; (with_reducible repeat (first | refine blk_drewN ?_ _ | refine blk_drew ?_ | refine blk_alloc ?_ _)); exact BK500.out⟩, ⟨by repeat (first | (with_reducible first | exact HB.out | apply below_alloc | apply pw_below_drewN | apply below_drew1 | refine below_set ?_ GE476.out | refine below_set ?_ GE489.out | refine below_set ?_ GE500.out) | exact HB.out)⟩⟩
    ·replace c32 := Bool.eq_false_iff.mpr c32
     subst c32
     have H1 : (crossroadslaw17_ClassApart.j0 k a1 a2 true l0_0 l0_1 a0_2 a0_3 a0_4 t479 t482 t485 t490 t493 t496) = some r := by rw [if_neg (show ¬ (false = true) by decide)] at H; exact H
     clear H
     have H := H1
     clear H1
     have H' := Aside0.mk H
     clear H
     go_wp2
     go_meet
     case rel => exact ⟨_, (true), (by first | rfl | (simp; done) | (simp [*]; done)), H', ⟨by first | omega | exact Nat.le_refl _⟩, ⟨by (with_reducible repeat (first | apply Kd.V_alloc | apply Kd.V_drewN | apply Kd.V_drew)); exact Kd.V_mono (Kd.V_far (p := ⟨gb500, 2, none⟩) (Kd.V_far (p := ⟨gb500, 1, none⟩) (Kd.V_far (p := ⟨gb500, 0, none⟩) (Kd.V_mono HO481.out (fun k_ hk => (⟨hk, hk.2⟩ : _ ∧ k_ ≠ gb500))) (fun _ hk => hk.2) (.slice Ao26 t490.length co26)) (fun _ hk => hk.2) (.slice Ao30 t493.length co30)) (fun _ hk => hk.2) (.slice Ao31 t496.length co31)) (fun _ hk => ⟨hk.1.1.1, ⟨hk.1.1.2, hk.1.2⟩⟩)⟩, ⟨by (with_reducible repeat (first | apply Kd.V_alloc | apply Kd.V_drewN | apply Kd.V_drew)); exact Kd.V_mono (Kd.V_far (p := ⟨gb500, 2, none⟩) (Kd.V_far (p := ⟨gb500, 1, none⟩) (Kd.V_far (p := ⟨gb500, 0, none⟩) (Kd.V_mono HO484.out (fun k_ hk => (⟨hk, hk.2⟩ : _ ∧ k_ ≠ gb500))) (fun _ hk => hk.2) (.slice Ao26 t490.length co26)) (fun _ hk => hk.2) (.slice Ao30 t493.length co30)) (fun _ hk => hk.2) (.slice Ao31 t496.length co31)) (fun _ hk => ⟨hk.1.1.1, ⟨hk.1.1.2, hk.1.2⟩⟩)⟩, ⟨by (with_reducible repeat (first | apply Kd.V_alloc | apply Kd.V_drewN | apply Kd.V_drew)); exact Kd.V_mono (Kd.V_far (p := ⟨gb500, 2, none⟩) (Kd.V_far (p := ⟨gb500, 1, none⟩) (Kd.V_far (p := ⟨gb500, 0, none⟩) (Kd.V_mono HO487.out (fun k_ hk => (⟨hk, hk.2⟩ : _ ∧ k_ ≠ gb500))) (fun _ hk => hk.2) (.slice Ao26 t490.length co26)) (fun _ hk => hk.2) (.slice Ao30 t493.length co30)) (fun _ hk => hk.2) (.slice Ao31 t496.length co31)) (fun _ hk => ⟨hk.1.1.1, ⟨hk.1.1.2, hk.1.2⟩⟩)⟩, ⟨by (with_reducible repeat (first | apply Kd.V_alloc | apply Kd.V_drewN | apply Kd.V_drew)); exact Kd.V_mono (Kd.V_far (p := ⟨gb500, 2, none⟩) (Kd.V_far (p := ⟨gb500, 1, none⟩) (Kd.V_far (p := ⟨gb500, 0, none⟩) (Kd.V_mono HO492.out (fun k_ hk => (⟨hk, hk.2⟩ : _ ∧ k_ ≠ gb500))) (fun _ hk => hk.2) (.slice Ao26 t490.length co26)) (fun _ hk => hk.2) (.slice Ao30 t493.length co30)) (fun _ hk => hk.2) (.slice Ao31 t496.length co31)) (fun _ hk => ⟨hk.1.1.1, ⟨hk.1.1.2, hk.1.2⟩⟩)⟩, ⟨by (with_reducible repeat (first | apply Kd.V_alloc | apply Kd.V_drewN | apply Kd.V_drew)); exact Kd.V_mono (Kd.V_far (p := ⟨gb500, 2, none⟩) (Kd.V_far (p := ⟨gb500, 1, none⟩) (Kd.V_far (p := ⟨gb500, 0, none⟩) (Kd.V_mono HO495.out (fun k_ hk => (⟨hk, hk.2⟩ : _ ∧ k_ ≠ gb500))) (fun _ hk => hk.2) (.slice Ao26 t490.length co26)) (fun _ hk => hk.2) (.slice Ao30 t493.length co30)) (fun _ hk => hk.2) (.slice Ao31 t496.length co31)) (fun _ hk => ⟨hk.1.1.1, ⟨hk.1.1.2, hk.1.2⟩⟩)⟩, ⟨by (with_reducible repeat (first | apply Kd.V_alloc | apply Kd.V_drewN | apply Kd.V_drew)); exact Kd.V_mono (Kd.V_far (p := ⟨gb500, 2, none⟩) (Kd.V_far (p := ⟨gb500, 1, none⟩) (Kd.V_far (p := ⟨gb500, 0, none⟩) (Kd.V_mono HO498.out (fun k_ hk => (⟨hk, hk.2⟩ : _ ∧ k_ ≠ gb500))) (fun _ hk => hk.2) (.slice Ao26 t490.length co26)) (fun _ hk => hk.2) (.slice Ao30 t493.length co30)) (fun _ hk => hk.2) (.slice Ao31 t496.length co31)) (fun _ hk => ⟨hk.1.1.1, ⟨hk.1.1.2, hk.1.2⟩⟩)⟩, ⟨by (with_reducible repeat (first | refine blk_drewN ?_ _ | refine blk_drew ?_ | refine blk_alloc ?_ _)); refine blk_far ?_ NB476_500.out _; (with_reducible repeat (first | refine blk_drewN ?_ _ | refine blk_drew ?_ | refine blk_alloc ?_ _)); refine blk_far ?_ NB476_500.out _; (with_reducible repeat (first | refine blk_drewN ?_ _ | refine blk_drew ?_ | refine blk_alloc ?_ _)); refine blk_far ?_ NB476_500.out _; (with_reducible repeat (first | refine blk_drewN ?_ _ | refine blk_drew ?_ | refine blk_alloc ?_ _)); exact BK476.out⟩, ⟨by (with_reducible repeat (first | refine blk_drewN ?_ _ | refine blk_drew ?_ | refine blk_alloc ?_ _)); refine blk_far ?_ NB489_500.out _; (with_reducible repeat (first | refine blk_drewN ?_ _ | refine blk_drew ?_ | refine blk_alloc ?_ _)); refine blk_far ?_ NB489_500.out _; (with_reducible repeat (first | refine blk_drewN ?_ _ | refine blk_drew ?_ | refine blk_alloc ?_ _)); refine blk_far ?_ NB489_500.out _; (with_reducible repeat (first | refine blk_drewN ?_ _ | refine blk_drew ?_ | refine blk_alloc ?_ _)); exact BK489.out⟩, ⟨by (with_reducible repeat (first | refine blk_drewN ?_ _ | refine blk_drew ?_ | refine blk_alloc ?_ _)); refine blk_put (cs := #[.slice Ao26 t490.length co26, .slice Ao30 t493.length co30, .slice none 0 0]) ?_ 2 _ rfl; (with_reducible repeat (first | refine blk_drewN ?_ _ | refine blk_drew ?_ | refine blk_alloc ?_ _)); refine blk_put (cs := #[.slice Ao26 t490.length co26, .slice none 0 0, .slice none 0 0]) ?_ 1 _ rfl; (with_reducible repeat (first | refine blk_drewN ?_ _ | refine blk_drew ?_ | refine blk_alloc ?_ _)); refine blk_put (cs := #[.slice none 0 0, .slice none 0 0, .slice none 0 0]) ?_ 0 _ rfl; (with_reducible repeat (first | refine blk_drewN ?_ _ | refine blk_drew ?_ | refine blk_alloc ?_ _)); exact BK500.out⟩, ⟨by repeat (first | (with_reducible first | exact HB.out | apply below_alloc | apply pw_below_drewN | apply below_drew1 | refine below_set ?_ GE476.out | refine below_set ?_ GE489.out | refine below_set ?_ GE500.out) | exact HB.out)⟩⟩
   case rest =>
    clear HC10
    try clear c1
    try clear c2
    try clear p2
    try clear c3
    try clear c5
    try clear c6
    try clear p6
    try clear c7
    try clear c9
    try clear c10
    try clear c11
    try clear c19
    try clear c27
    try clear c28
    try clear c32
    try clear hcz13_0
    try clear hcz13_1
    try clear hcz13_2
    try clear hcz13_3
    try clear hcz13_4
    try clear hcz15_0
    try clear hcz15_1
    try clear hcz15_2
    try clear hcz15_3
    try clear hcz15_4
    try clear hcz20_0
    try clear hcz20_1
    try clear hcz20_2
    try clear hcz23_0
    try clear hcz23_1
    try clear hcz23_2
    try clear hcz23_3
    try clear hcz23_4
    try clear hcz29_0
    try clear hcz29_1
    try clear hcz29_2
    try clear hfz13_0
    try clear hfz13_1
    try clear hfz13_2
    try clear hfz13_3
    try clear hfz13_4
    try clear hfz15_0
    try clear hfz15_1
    try clear hfz15_2
    try clear hfz15_3
    try clear hfz15_4
    try clear hfz20_0
    try clear hfz20_1
    try clear hfz20_2
    try clear hfz23_0
    try clear hfz23_1
    try clear hfz23_2
    try clear hfz23_3
    try clear hfz23_4
    try clear hfz29_0
    try clear hfz29_1
    try clear hfz29_2
    obtain ⟨kq, x40_9, rfl, HA, HJ9, HO_490000, HO_490001, HO_490002, HO_501000, HO_501001, HO_501002, BK476, BK489, BK500, HB⟩ := hcut
    cases kq with
    | zero => exact absurd HA.out (by simp [crossroadslaw17_ClassApart.j0])
    | succ kj9 =>
     have H := HA.out
     clear HA
     simp only [crossroadslaw17_ClassApart.j0] at H
     by_cases c33 : x40_9 = true
     ·subst c33
      have H1 : (some true) = some r := by rw [if_pos rfl] at H; exact H
      clear H
      have H := H1
      clear H1
      obtain rfl := Option.some.inj H
      go_wp2
      go_ret
      exact ⟨by first | rfl | (simp [errW_none, errW_some] <;> rfl) | (simp [*, errW_none, errW_some] <;> rfl), by repeat (first | (with_reducible first | exact HB.out | apply below_alloc | apply pw_below_drewN | apply below_drew1 | refine below_set ?_ GE476.out | refine below_set ?_ GE489.out | refine below_set ?_ GE500.out) | exact HB.out)⟩
     ·replace c33 := Bool.eq_false_iff.mpr c33
      subst c33
      have H1 : ((class_Has.f kj9 l0_0 l0_1 a0_2 a0_3 a0_4 t479 t482 t485).bind fun t501 => (if t501 = true then ((class_Has.f kj9 l0_0 l0_1 a0_2 a0_3 a0_4 t490 t493 t496).bind fun t502 => (if t502 = true then ((crossroadsref17_Same.f kj9 t479 t482 t485 t490 t493 t496).bind fun t503 => (crossroadslaw17_ClassApart.j1 kj9 a1 a2 (t503 != (a1 == a2)) t479 t482 t485 t490 t493 t496)) else (crossroadslaw17_ClassApart.j1 kj9 a1 a2 true t479 t482 t485 t490 t493 t496))) else (crossroadslaw17_ClassApart.j1 kj9 a1 a2 true t479 t482 t485 t490 t493 t496))) = some r := by rw [if_neg (show ¬ (false = true) by decide)] at H; exact H
      clear H
      have H := H1
      clear H1
      have HC34 := Aside0.mk H
      clear H
      go_upto_region 9 with (fail)
      go_cut [59] (fun v59 wc => ∃ (kq : Nat) (x59_33 : Bool), v59 = .bool x59_33 ∧ Aside0 (crossroadslaw17_ClassApart.j1 kq a1 a2 x59_33 t479 t482 t485 t490 t493 t496 = some r) ∧ Aside0 (kq ≤ kj9) ∧ Aside0 (Kd.V (Kd.slice 5 (Kd.int .u8)) 42 wc w.heap.size (fun k_ => k_ ≠ gb476 ∧ k_ ≠ gb489 ∧ k_ ≠ gb500) (.slice Ao18 t479.length co18) t479) ∧ Aside0 (Kd.V (Kd.slice 5 (Kd.int .u8)) 42 wc w.heap.size (fun k_ => k_ ≠ gb476 ∧ k_ ≠ gb489 ∧ k_ ≠ gb500) (.slice Ao21 t482.length co21) t482) ∧ Aside0 (Kd.V Kd.bool 4 wc w.heap.size (fun k_ => k_ ≠ gb476 ∧ k_ ≠ gb489 ∧ k_ ≠ gb500) (.slice Ao22 t485.length co22) t485) ∧ Aside0 (Kd.V (Kd.slice 5 (Kd.int .u8)) 42 wc w.heap.size (fun k_ => k_ ≠ gb476 ∧ k_ ≠ gb489 ∧ k_ ≠ gb500) (.slice Ao26 t490.length co26) t490) ∧ Aside0 (Kd.V (Kd.slice 5 (Kd.int .u8)) 42 wc w.heap.size (fun k_ => k_ ≠ gb476 ∧ k_ ≠ gb489 ∧ k_ ≠ gb500) (.slice Ao30 t493.length co30) t493) ∧ Aside0 (Kd.V Kd.bool 4 wc w.heap.size (fun k_ => k_ ≠ gb476 ∧ k_ ≠ gb489 ∧ k_ ≠ gb500) (.slice Ao31 t496.length co31) t496) ∧ Aside0 (wc.heap[gb476]? = some (.cells #[(.slice A0_0 l0_0.length c0_0), (.slice A0_1 l0_1.length c0_1), .int .i64 a0_2, .int .i64 a0_3, .int .i64 a0_4] 25 (0, 0))) ∧ Aside0 (wc.heap[gb489]? = some (.cells #[(.slice Ao18 t479.length co18), (.slice Ao21 t482.length co21), (.slice Ao22 t485.length co22)] 31 (0, 0))) ∧ Aside0 (wc.heap[gb500]? = some (.cells #[(.slice Ao26 t490.length co26), (.slice Ao30 t493.length co30), (.slice Ao31 t496.length co31)] 31 (0, 0))) ∧ Aside0 (Below w.heap.size w wc))
      case first =>
       have H := HC34.out
       clear HC34
       replace H := Option.bind_eq_some_iff.mp H
       obtain ⟨t501, A350, H⟩ := H
       replace H : (if t501 = true then ((class_Has.f kj9 l0_0 l0_1 a0_2 a0_3 a0_4 t490 t493 t496).bind fun t502 => (if t502 = true then ((crossroadsref17_Same.f kj9 t479 t482 t485 t490 t493 t496).bind fun t503 => (crossroadslaw17_ClassApart.j1 kj9 a1 a2 (t503 != (a1 == a2)) t479 t482 t485 t490 t493 t496)) else (crossroadslaw17_ClassApart.j1 kj9 a1 a2 true t479 t482 t485 t490 t493 t496))) else (crossroadslaw17_ClassApart.j1 kj9 a1 a2 true t479 t482 t485 t490 t493 t496)) = some r := H
       have A35 := Aside0.mk A350
       clear A350
       by_cases c36 : t501 = true
       ·subst c36
        have H1 : ((class_Has.f kj9 l0_0 l0_1 a0_2 a0_3 a0_4 t490 t493 t496).bind fun t502 => (if t502 = true then ((crossroadsref17_Same.f kj9 t479 t482 t485 t490 t493 t496).bind fun t503 => (crossroadslaw17_ClassApart.j1 kj9 a1 a2 (t503 != (a1 == a2)) t479 t482 t485 t490 t493 t496)) else (crossroadslaw17_ClassApart.j1 kj9 a1 a2 true t479 t482 t485 t490 t493 t496))) = some r := by rw [if_pos rfl] at H; exact H
        clear H
        have H := H1
        clear H1
        replace H := Option.bind_eq_some_iff.mp H
        obtain ⟨t502, A370, H⟩ := H
        replace H : (if t502 = true then ((crossroadsref17_Same.f kj9 t479 t482 t485 t490 t493 t496).bind fun t503 => (crossroadslaw17_ClassApart.j1 kj9 a1 a2 (t503 != (a1 == a2)) t479 t482 t485 t490 t493 t496)) else (crossroadslaw17_ClassApart.j1 kj9 a1 a2 true t479 t482 t485 t490 t493 t496)) = some r := H
        have A37 := Aside0.mk A370
        clear A370
        by_cases c38 : t502 = true
        ·subst c38
         have H1 : ((crossroadsref17_Same.f kj9 t479 t482 t485 t490 t493 t496).bind fun t503 => (crossroadslaw17_ClassApart.j1 kj9 a1 a2 (t503 != (a1 == a2)) t479 t482 t485 t490 t493 t496)) = some r := by rw [if_pos rfl] at H; exact H
         clear H
         have H := H1
         clear H1
         replace H := Option.bind_eq_some_iff.mp H
         obtain ⟨t503, A390, H⟩ := H
         replace H : (crossroadslaw17_ClassApart.j1 kj9 a1 a2 (t503 != (a1 == a2)) t479 t482 t485 t490 t493 t496) = some r := H
         have A39 := Aside0.mk A390
         clear A390
         have H' := Aside0.mk H
         clear H
         have hnb40 := NB476_489.out
         have hnc40 := NB489_476.out
         have hnb41 := NB476_500.out
         have hnc41 := NB500_476.out
         have hcz42_0 : wc.cell? ⟨gb476, 0, none⟩ = some (.slice A0_0 l0_0.length c0_0) := (blk_cell BK476.out 0).trans rfl
         have hcz42_1 : wc.cell? ⟨gb476, 1, none⟩ = some (.slice A0_1 l0_1.length c0_1) := (blk_cell BK476.out 1).trans rfl
         have hcz42_2 : wc.cell? ⟨gb476, 2, none⟩ = some (.int .i64 a0_2) := (blk_cell BK476.out 2).trans rfl
         have hcz42_3 : wc.cell? ⟨gb476, 3, none⟩ = some (.int .i64 a0_3) := (blk_cell BK476.out 3).trans rfl
         have hcz42_4 : wc.cell? ⟨gb476, 4, none⟩ = some (.int .i64 a0_4) := (blk_cell BK476.out 4).trans rfl
         have hfz42_0 := blk_frozen BK476.out 0
         have hfz42_1 := blk_frozen BK476.out 1
         have hfz42_2 := blk_frozen BK476.out 2
         have hfz42_3 := blk_frozen BK476.out 3
         have hfz42_4 := blk_frozen BK476.out 4
         have hnb43 := NB489_500.out
         have hnc43 := NB500_489.out
         have hcz44_0 : wc.cell? ⟨gb489, 0, none⟩ = some (.slice Ao18 t479.length co18) := (blk_cell BK489.out 0).trans rfl
         have hcz44_1 : wc.cell? ⟨gb489, 1, none⟩ = some (.slice Ao21 t482.length co21) := (blk_cell BK489.out 1).trans rfl
         have hcz44_2 : wc.cell? ⟨gb489, 2, none⟩ = some (.slice Ao22 t485.length co22) := (blk_cell BK489.out 2).trans rfl
         have hfz44_0 := blk_frozen BK489.out 0
         have hfz44_1 := blk_frozen BK489.out 1
         have hfz44_2 := blk_frozen BK489.out 2
         go_wp2_with (first | ((with_reducible refine gate_callee (f := 19) rfl ?_); refine goesL_ (some 43) rfl rfl Try.func19 (by kernel_rfl) rfl #[.agg #[.slice A0_0 l0_0.length c0_0, .slice A0_1 l0_1.length c0_1, .int .i64 a0_2, .int .i64 a0_3, .int .i64 a0_4], .agg #[.slice Ao18 t479.length co18, .slice Ao21 t482.length co21, .slice Ao22 t485.length co22]] rfl (by (try simp only [List.map_toArray, List.map_cons, List.map_nil]); first | done | rfl | (simp only [List.length_drop, List.length_take]; rfl)) ?_; (with_reducible refine (class_Has.calls kj9 _ _ l0_0 _ _ l0_1 a0_2 a0_3 a0_4 _ _ t479 _ _ t482 _ _ t485 true _ ?side1 ?side2 ?side3 ?side4 ?side5 ?side6 ?side7 ?side8 ?side9 ?side10 A35.out).mono ?_); (case side1 => repeat (first | exact (Kd.C_below HR0_0.out HB.out) | (with_reducible refine Kd.C_alloc ?_ _) | (with_reducible refine Kd.C_drewN ?_ _) | (with_reducible refine Kd.C_drew ?_))); (case side2 => exact HC0_0.out); (case side3 => repeat (first | exact (Kd.C_below HR0_1.out HB.out) | (with_reducible refine Kd.C_alloc ?_ _) | (with_reducible refine Kd.C_drewN ?_ _) | (with_reducible refine Kd.C_drew ?_))); (case side4 => exact HC0_1.out); (case side5 => repeat (first | exact (Kd.V_reads' HO_490000.out).2.2 | (with_reducible refine Kd.C_alloc ?_ _) | (with_reducible refine Kd.C_drewN ?_ _) | (with_reducible refine Kd.C_drew ?_))); (case side6 => exact (Kd.V_reads' HO_490000.out).2.1); (case side7 => repeat (first | exact (Kd.V_reads' HO_490001.out).2.2 | (with_reducible refine Kd.C_alloc ?_ _) | (with_reducible refine Kd.C_drewN ?_ _) | (with_reducible refine Kd.C_drew ?_))); (case side8 => exact (Kd.V_reads' HO_490001.out).2.1); (case side9 => repeat (first | exact (Kd.V_reads' HO_490002.out).2.2 | (with_reducible refine Kd.C_alloc ?_ _) | (with_reducible refine Kd.C_drewN ?_ _) | (with_reducible refine Kd.C_drew ?_))); (case side10 => exact (Kd.V_reads' HO_490002.out).2.1); rintro e w45 ⟨rfl, hb⟩; refine ⟨_, rfl, ?_⟩; have n0_ := Aside0.mk (Kd.V_below (by (with_reducible repeat (first | apply Kd.V_alloc | apply Kd.V_drewN | apply Kd.V_drew)); exact HO_490000.out) hb); have n1_ := Aside0.mk (Kd.V_below (by (with_reducible repeat (first | apply Kd.V_alloc | apply Kd.V_drewN | apply Kd.V_drew)); exact HO_490001.out) hb); have n2_ := Aside0.mk (Kd.V_below (by (with_reducible repeat (first | apply Kd.V_alloc | apply Kd.V_drewN | apply Kd.V_drew)); exact HO_490002.out) hb); have n3_ := Aside0.mk (Kd.V_below (by (with_reducible repeat (first | apply Kd.V_alloc | apply Kd.V_drewN | apply Kd.V_drew)); exact HO_501000.out) hb); have n4_ := Aside0.mk (Kd.V_below (by (with_reducible repeat (first | apply Kd.V_alloc | apply Kd.V_drewN | apply Kd.V_drew)); exact HO_501001.out) hb); have n5_ := Aside0.mk (Kd.V_below (by (with_reducible repeat (first | apply Kd.V_alloc | apply Kd.V_drewN | apply Kd.V_drew)); exact HO_501002.out) hb); have n6_ := Aside0.mk (blk_below (g := gb476) (o := .cells #[.slice A0_0 l0_0.length c0_0, .slice A0_1 l0_1.length c0_1, .int .i64 a0_2, .int .i64 a0_3, .int .i64 a0_4] 25 (0, 0)) (by (with_reducible repeat (first | refine blk_drewN ?_ _ | refine blk_drew ?_ | refine blk_alloc ?_ _)); exact BK476.out) hb); have n7_ := Aside0.mk (blk_below (g := gb489) (o := .cells #[.slice Ao18 t479.length co18, .slice Ao21 t482.length co21, .slice Ao22 t485.length co22] 31 (0, 0)) (by (with_reducible repeat (first | refine blk_drewN ?_ _ | refine blk_drew ?_ | refine blk_alloc ?_ _)); exact BK489.out) hb); have n8_ := Aside0.mk (blk_below (g := gb500) (o := .cells #[.slice Ao26 t490.length co26, .slice Ao30 t493.length co30, .slice Ao31 t496.length co31] 31 (0, 0)) (by (with_reducible repeat (first | refine blk_drewN ?_ _ | refine blk_drew ?_ | refine blk_alloc ?_ _)); exact BK500.out) hb); have n9_ := Aside0.mk (below_step (by repeat (first | (with_reducible first | exact HB.out | apply below_alloc | apply pw_below_drewN | apply below_drew1 | refine below_set ?_ GE476.out | refine below_set ?_ GE489.out | refine below_set ?_ GE500.out) | exact HB.out)) hb); clear HO_490000; clear HO_490001; clear HO_490002; clear HO_501000; clear HO_501001; clear HO_501002; clear BK476; clear BK489; clear BK500; clear HB; have HO_490000 := n0_; have HO_490001 := n1_; have HO_490002 := n2_; have HO_501000 := n3_; have HO_501001 := n4_; have HO_501002 := n5_; have BK476 := n6_; have BK489 := n7_; have BK500 := n8_; have HB := n9_; clear n0_ n1_ n2_ n3_ n4_ n5_ n6_ n7_ n8_ n9_; (try clear hb); (try clear hb2); (try clear hk); (try clear hi); have hcz46_0 : w45.cell? ⟨gb476, 0, none⟩ = some (.slice A0_0 l0_0.length c0_0) := (blk_cell BK476.out 0).trans rfl; have hcz46_1 : w45.cell? ⟨gb476, 1, none⟩ = some (.slice A0_1 l0_1.length c0_1) := (blk_cell BK476.out 1).trans rfl; have hcz46_2 : w45.cell? ⟨gb476, 2, none⟩ = some (.int .i64 a0_2) := (blk_cell BK476.out 2).trans rfl; have hcz46_3 : w45.cell? ⟨gb476, 3, none⟩ = some (.int .i64 a0_3) := (blk_cell BK476.out 3).trans rfl; have hcz46_4 : w45.cell? ⟨gb476, 4, none⟩ = some (.int .i64 a0_4) := (blk_cell BK476.out 4).trans rfl; have hfz46_0 := blk_frozen BK476.out 0; have hfz46_1 := blk_frozen BK476.out 1; have hfz46_2 := blk_frozen BK476.out 2; have hfz46_3 := blk_frozen BK476.out 3; have hfz46_4 := blk_frozen BK476.out 4; have hcz47_0 : w45.cell? ⟨gb500, 0, none⟩ = some (.slice Ao26 t490.length co26) := (blk_cell BK500.out 0).trans rfl; have hcz47_1 : w45.cell? ⟨gb500, 1, none⟩ = some (.slice Ao30 t493.length co30) := (blk_cell BK500.out 1).trans rfl; have hcz47_2 : w45.cell? ⟨gb500, 2, none⟩ = some (.slice Ao31 t496.length co31) := (blk_cell BK500.out 2).trans rfl; have hfz47_0 := blk_frozen BK500.out 0; have hfz47_1 := blk_frozen BK500.out 1; have hfz47_2 := blk_frozen BK500.out 2) | (go_at_call 19; (with_reducible refine (class_Has.calls kj9 _ _ l0_0 _ _ l0_1 a0_2 a0_3 a0_4 _ _ t490 _ _ t493 _ _ t496 true _ ?side1 ?side2 ?side3 ?side4 ?side5 ?side6 ?side7 ?side8 ?side9 ?side10 A37.out).mono ?_); (case side1 => repeat (first | exact (Kd.C_below HR0_0.out HB.out) | (with_reducible refine Kd.C_alloc ?_ _) | (with_reducible refine Kd.C_drewN ?_ _) | (with_reducible refine Kd.C_drew ?_))); (case side2 => exact HC0_0.out); (case side3 => repeat (first | exact (Kd.C_below HR0_1.out HB.out) | (with_reducible refine Kd.C_alloc ?_ _) | (with_reducible refine Kd.C_drewN ?_ _) | (with_reducible refine Kd.C_drew ?_))); (case side4 => exact HC0_1.out); (case side5 => repeat (first | exact (Kd.V_reads' HO_501000.out).2.2 | (with_reducible refine Kd.C_alloc ?_ _) | (with_reducible refine Kd.C_drewN ?_ _) | (with_reducible refine Kd.C_drew ?_))); (case side6 => exact (Kd.V_reads' HO_501000.out).2.1); (case side7 => repeat (first | exact (Kd.V_reads' HO_501001.out).2.2 | (with_reducible refine Kd.C_alloc ?_ _) | (with_reducible refine Kd.C_drewN ?_ _) | (with_reducible refine Kd.C_drew ?_))); (case side8 => exact (Kd.V_reads' HO_501001.out).2.1); (case side9 => repeat (first | exact (Kd.V_reads' HO_501002.out).2.2 | (with_reducible refine Kd.C_alloc ?_ _) | (with_reducible refine Kd.C_drewN ?_ _) | (with_reducible refine Kd.C_drew ?_))); (case side10 => exact (Kd.V_reads' HO_501002.out).2.1); rintro e w48 ⟨rfl, hb⟩; have n0_ := Aside0.mk (Kd.V_below (by (with_reducible repeat (first | apply Kd.V_alloc | apply Kd.V_drewN | apply Kd.V_drew)); exact HO_490000.out) hb); have n1_ := Aside0.mk (Kd.V_below (by (with_reducible repeat (first | apply Kd.V_alloc | apply Kd.V_drewN | apply Kd.V_drew)); exact HO_490001.out) hb); have n2_ := Aside0.mk (Kd.V_below (by (with_reducible repeat (first | apply Kd.V_alloc | apply Kd.V_drewN | apply Kd.V_drew)); exact HO_490002.out) hb); have n3_ := Aside0.mk (Kd.V_below (by (with_reducible repeat (first | apply Kd.V_alloc | apply Kd.V_drewN | apply Kd.V_drew)); exact HO_501000.out) hb); have n4_ := Aside0.mk (Kd.V_below (by (with_reducible repeat (first | apply Kd.V_alloc | apply Kd.V_drewN | apply Kd.V_drew)); exact HO_501001.out) hb); have n5_ := Aside0.mk (Kd.V_below (by (with_reducible repeat (first | apply Kd.V_alloc | apply Kd.V_drewN | apply Kd.V_drew)); exact HO_501002.out) hb); have n6_ := Aside0.mk (blk_below (g := gb476) (o := .cells #[.slice A0_0 l0_0.length c0_0, .slice A0_1 l0_1.length c0_1, .int .i64 a0_2, .int .i64 a0_3, .int .i64 a0_4] 25 (0, 0)) (by (with_reducible repeat (first | refine blk_drewN ?_ _ | refine blk_drew ?_ | refine blk_alloc ?_ _)); exact BK476.out) hb); have n7_ := Aside0.mk (blk_below (g := gb489) (o := .cells #[.slice Ao18 t479.length co18, .slice Ao21 t482.length co21, .slice Ao22 t485.length co22] 31 (0, 0)) (by (with_reducible repeat (first | refine blk_drewN ?_ _ | refine blk_drew ?_ | refine blk_alloc ?_ _)); exact BK489.out) hb); have n8_ := Aside0.mk (blk_below (g := gb500) (o := .cells #[.slice Ao26 t490.length co26, .slice Ao30 t493.length co30, .slice Ao31 t496.length co31] 31 (0, 0)) (by (with_reducible repeat (first | refine blk_drewN ?_ _ | refine blk_drew ?_ | refine blk_alloc ?_ _)); exact BK500.out) hb); have n9_ := Aside0.mk (below_step (by repeat (first | (with_reducible first | exact HB.out | apply below_alloc | apply pw_below_drewN | apply below_drew1 | refine below_set ?_ GE476.out | refine below_set ?_ GE489.out | refine below_set ?_ GE500.out) | exact HB.out)) hb); clear HO_490000; clear HO_490001; clear HO_490002; clear HO_501000; clear HO_501001; clear HO_501002; clear BK476; clear BK489; clear BK500; clear HB; have HO_490000 := n0_; have HO_490001 := n1_; have HO_490002 := n2_; have HO_501000 := n3_; have HO_501001 := n4_; have HO_501002 := n5_; have BK476 := n6_; have BK489 := n7_; have BK500 := n8_; have HB := n9_; clear n0_ n1_ n2_ n3_ n4_ n5_ n6_ n7_ n8_ n9_; (try clear hb); (try clear hb2); (try clear hk); (try clear hi); have hcz49_0 : w48.cell? ⟨gb489, 0, none⟩ = some (.slice Ao18 t479.length co18) := (blk_cell BK489.out 0).trans rfl; have hcz49_1 : w48.cell? ⟨gb489, 1, none⟩ = some (.slice Ao21 t482.length co21) := (blk_cell BK489.out 1).trans rfl; have hcz49_2 : w48.cell? ⟨gb489, 2, none⟩ = some (.slice Ao22 t485.length co22) := (blk_cell BK489.out 2).trans rfl; have hfz49_0 := blk_frozen BK489.out 0; have hfz49_1 := blk_frozen BK489.out 1; have hfz49_2 := blk_frozen BK489.out 2; have hcz50_0 : w48.cell? ⟨gb500, 0, none⟩ = some (.slice Ao26 t490.length co26) := (blk_cell BK500.out 0).trans rfl; have hcz50_1 : w48.cell? ⟨gb500, 1, none⟩ = some (.slice Ao30 t493.length co30) := (blk_cell BK500.out 1).trans rfl; have hcz50_2 : w48.cell? ⟨gb500, 2, none⟩ = some (.slice Ao31 t496.length co31) := (blk_cell BK500.out 2).trans rfl; have hfz50_0 := blk_frozen BK500.out 0; have hfz50_1 := blk_frozen BK500.out 1; have hfz50_2 := blk_frozen BK500.out 2) | (go_at_call 17; (with_reducible refine (crossroadsref17_Same.calls kj9 _ _ t479 _ _ t482 _ _ t485 _ _ t490 _ _ t493 _ _ t496 t503 _ ?side1 ?side2 ?side3 ?side4 ?side5 ?side6 ?side7 ?side8 ?side9 ?side10 ?side11 ?side12 A39.out).mono ?_); (case side1 => repeat (first | exact (Kd.V_reads' HO_490000.out).2.2 | (with_reducible refine Kd.C_alloc ?_ _) | (with_reducible refine Kd.C_drewN ?_ _) | (with_reducible refine Kd.C_drew ?_))); (case side2 => exact (Kd.V_reads' HO_490000.out).2.1); (case side3 => repeat (first | exact (Kd.V_reads' HO_490001.out).2.2 | (with_reducible refine Kd.C_alloc ?_ _) | (with_reducible refine Kd.C_drewN ?_ _) | (with_reducible refine Kd.C_drew ?_))); (case side4 => exact (Kd.V_reads' HO_490001.out).2.1); (case side5 => repeat (first | exact (Kd.V_reads' HO_490002.out).2.2 | (with_reducible refine Kd.C_alloc ?_ _) | (with_reducible refine Kd.C_drewN ?_ _) | (with_reducible refine Kd.C_drew ?_))); (case side6 => exact (Kd.V_reads' HO_490002.out).2.1); (case side7 => repeat (first | exact (Kd.V_reads' HO_501000.out).2.2 | (with_reducible refine Kd.C_alloc ?_ _) | (with_reducible refine Kd.C_drewN ?_ _) | (with_reducible refine Kd.C_drew ?_))); (case side8 => exact (Kd.V_reads' HO_501000.out).2.1); (case side9 => repeat (first | exact (Kd.V_reads' HO_501001.out).2.2 | (with_reducible refine Kd.C_alloc ?_ _) | (with_reducible refine Kd.C_drewN ?_ _) | (with_reducible refine Kd.C_drew ?_))); (case side10 => exact (Kd.V_reads' HO_501001.out).2.1); (case side11 => repeat (first | exact (Kd.V_reads' HO_501002.out).2.2 | (with_reducible refine Kd.C_alloc ?_ _) | (with_reducible refine Kd.C_drewN ?_ _) | (with_reducible refine Kd.C_drew ?_))); (case side12 => exact (Kd.V_reads' HO_501002.out).2.1); rintro e w51 ⟨rfl, hb⟩; have n0_ := Aside0.mk (Kd.V_below (by (with_reducible repeat (first | apply Kd.V_alloc | apply Kd.V_drewN | apply Kd.V_drew)); exact HO_490000.out) hb); have n1_ := Aside0.mk (Kd.V_below (by (with_reducible repeat (first | apply Kd.V_alloc | apply Kd.V_drewN | apply Kd.V_drew)); exact HO_490001.out) hb); have n2_ := Aside0.mk (Kd.V_below (by (with_reducible repeat (first | apply Kd.V_alloc | apply Kd.V_drewN | apply Kd.V_drew)); exact HO_490002.out) hb); have n3_ := Aside0.mk (Kd.V_below (by (with_reducible repeat (first | apply Kd.V_alloc | apply Kd.V_drewN | apply Kd.V_drew)); exact HO_501000.out) hb); have n4_ := Aside0.mk (Kd.V_below (by (with_reducible repeat (first | apply Kd.V_alloc | apply Kd.V_drewN | apply Kd.V_drew)); exact HO_501001.out) hb); have n5_ := Aside0.mk (Kd.V_below (by (with_reducible repeat (first | apply Kd.V_alloc | apply Kd.V_drewN | apply Kd.V_drew)); exact HO_501002.out) hb); have n6_ := Aside0.mk (blk_below (g := gb476) (o := .cells #[.slice A0_0 l0_0.length c0_0, .slice A0_1 l0_1.length c0_1, .int .i64 a0_2, .int .i64 a0_3, .int .i64 a0_4] 25 (0, 0)) (by (with_reducible repeat (first | refine blk_drewN ?_ _ | refine blk_drew ?_ | refine blk_alloc ?_ _)); exact BK476.out) hb); have n7_ := Aside0.mk (blk_below (g := gb489) (o := .cells #[.slice Ao18 t479.length co18, .slice Ao21 t482.length co21, .slice Ao22 t485.length co22] 31 (0, 0)) (by (with_reducible repeat (first | refine blk_drewN ?_ _ | refine blk_drew ?_ | refine blk_alloc ?_ _)); exact BK489.out) hb); have n8_ := Aside0.mk (blk_below (g := gb500) (o := .cells #[.slice Ao26 t490.length co26, .slice Ao30 t493.length co30, .slice Ao31 t496.length co31] 31 (0, 0)) (by (with_reducible repeat (first | refine blk_drewN ?_ _ | refine blk_drew ?_ | refine blk_alloc ?_ _)); exact BK500.out) hb); have n9_ := Aside0.mk (below_step (by repeat (first | (with_reducible first | exact HB.out | apply below_alloc | apply pw_below_drewN | apply below_drew1 | refine below_set ?_ GE476.out | refine below_set ?_ GE489.out | refine below_set ?_ GE500.out) | exact HB.out)) hb); clear HO_490000; clear HO_490001; clear HO_490002; clear HO_501000; clear HO_501001; clear HO_501002; clear BK476; clear BK489; clear BK500; clear HB; have HO_490000 := n0_; have HO_490001 := n1_; have HO_490002 := n2_; have HO_501000 := n3_; have HO_501001 := n4_; have HO_501002 := n5_; have BK476 := n6_; have BK489 := n7_; have BK500 := n8_; have HB := n9_; clear n0_ n1_ n2_ n3_ n4_ n5_ n6_ n7_ n8_ n9_; (try clear hb); (try clear hb2); (try clear hk); (try clear hi)))
         go_meet
         case rel => exact ⟨_, ((t503 != (a1 == a2))), (by first | rfl | (simp; done) | (simp [*]; done)), H', ⟨by have := HJ9.out; first | omega | exact Nat.le_refl _⟩, ⟨by (with_reducible repeat (first | apply Kd.V_alloc | apply Kd.V_drewN | apply Kd.V_drew)); exact HO_490000.out⟩, ⟨by (with_reducible repeat (first | apply Kd.V_alloc | apply Kd.V_drewN | apply Kd.V_drew)); exact HO_490001.out⟩, ⟨by (with_reducible repeat (first | apply Kd.V_alloc | apply Kd.V_drewN | apply Kd.V_drew)); exact HO_490002.out⟩, ⟨by (with_reducible repeat (first | apply Kd.V_alloc | apply Kd.V_drewN | apply Kd.V_drew)); exact HO_501000.out⟩, ⟨by (with_reducible repeat (first | apply Kd.V_alloc | apply Kd.V_drewN | apply Kd.V_drew)); exact HO_501001.out⟩, ⟨by (with_reducible repeat (first | apply Kd.V_alloc | apply Kd.V_drewN | apply Kd.V_drew)); exact HO_501002.out⟩, ⟨by (with_reducible repeat (first | refine blk_drewN ?_ _ | refine blk_drew ?_ | refine blk_alloc ?_ _)); exact BK476.out⟩, ⟨by (with_reducible repeat (first | refine blk_drewN ?_ _ | refine blk_drew ?_ | refine blk_alloc ?_ _)); exact BK489.out⟩, ⟨by (with_reducible repeat (first | refine blk_drewN ?_ _ | refine blk_drew ?_ | refine blk_alloc ?_ _)); exact BK500.out⟩, ⟨by repeat (first | (with_reducible first | exact HB.out | apply below_alloc | apply pw_below_drewN | apply below_drew1 | refine below_set ?_ GE476.out | refine below_set ?_ GE489.out | refine below_set ?_ GE500.out) | exact HB.out)⟩⟩
        ·replace c38 := Bool.eq_false_iff.mpr c38
         subst c38
         have H1 : (crossroadslaw17_ClassApart.j1 kj9 a1 a2 true t479 t482 t485 t490 t493 t496) = some r := by rw [if_neg (show ¬ (false = true) by decide)] at H; exact H
         clear H
         have H := H1
         clear H1
         have H' := Aside0.mk H
         clear H
         have hnb52 := NB476_489.out
         have hnc52 := NB489_476.out
         have hnb53 := NB476_500.out
         have hnc53 := NB500_476.out
         have hcz54_0 : wc.cell? ⟨gb476, 0, none⟩ = some (.slice A0_0 l0_0.length c0_0) := (blk_cell BK476.out 0).trans rfl
         have hcz54_1 : wc.cell? ⟨gb476, 1, none⟩ = some (.slice A0_1 l0_1.length c0_1) := (blk_cell BK476.out 1).trans rfl
         have hcz54_2 : wc.cell? ⟨gb476, 2, none⟩ = some (.int .i64 a0_2) := (blk_cell BK476.out 2).trans rfl
         have hcz54_3 : wc.cell? ⟨gb476, 3, none⟩ = some (.int .i64 a0_3) := (blk_cell BK476.out 3).trans rfl
         have hcz54_4 : wc.cell? ⟨gb476, 4, none⟩ = some (.int .i64 a0_4) := (blk_cell BK476.out 4).trans rfl
         have hfz54_0 := blk_frozen BK476.out 0
         have hfz54_1 := blk_frozen BK476.out 1
         have hfz54_2 := blk_frozen BK476.out 2
         have hfz54_3 := blk_frozen BK476.out 3
         have hfz54_4 := blk_frozen BK476.out 4
         have hnb55 := NB489_500.out
         have hnc55 := NB500_489.out
         have hcz56_0 : wc.cell? ⟨gb489, 0, none⟩ = some (.slice Ao18 t479.length co18) := (blk_cell BK489.out 0).trans rfl
         have hcz56_1 : wc.cell? ⟨gb489, 1, none⟩ = some (.slice Ao21 t482.length co21) := (blk_cell BK489.out 1).trans rfl
         have hcz56_2 : wc.cell? ⟨gb489, 2, none⟩ = some (.slice Ao22 t485.length co22) := (blk_cell BK489.out 2).trans rfl
         have hfz56_0 := blk_frozen BK489.out 0
         have hfz56_1 := blk_frozen BK489.out 1
         have hfz56_2 := blk_frozen BK489.out 2
         go_wp2_with (first | ((with_reducible refine gate_callee (f := 19) rfl ?_); refine goesL_ (some 43) rfl rfl Try.func19 (by kernel_rfl) rfl #[.agg #[.slice A0_0 l0_0.length c0_0, .slice A0_1 l0_1.length c0_1, .int .i64 a0_2, .int .i64 a0_3, .int .i64 a0_4], .agg #[.slice Ao18 t479.length co18, .slice Ao21 t482.length co21, .slice Ao22 t485.length co22]] rfl (by (try simp only [List.map_toArray, List.map_cons, List.map_nil]); first | done | rfl | (simp only [List.length_drop, List.length_take]; rfl)) ?_; (with_reducible refine (class_Has.calls kj9 _ _ l0_0 _ _ l0_1 a0_2 a0_3 a0_4 _ _ t479 _ _ t482 _ _ t485 true _ ?side1 ?side2 ?side3 ?side4 ?side5 ?side6 ?side7 ?side8 ?side9 ?side10 A35.out).mono ?_); (case side1 => repeat (first | exact (Kd.C_below HR0_0.out HB.out) | (with_reducible refine Kd.C_alloc ?_ _) | (with_reducible refine Kd.C_drewN ?_ _) | (with_reducible refine Kd.C_drew ?_))); (case side2 => exact HC0_0.out); (case side3 => repeat (first | exact (Kd.C_below HR0_1.out HB.out) | (with_reducible refine Kd.C_alloc ?_ _) | (with_reducible refine Kd.C_drewN ?_ _) | (with_reducible refine Kd.C_drew ?_))); (case side4 => exact HC0_1.out); (case side5 => repeat (first | exact (Kd.V_reads' HO_490000.out).2.2 | (with_reducible refine Kd.C_alloc ?_ _) | (with_reducible refine Kd.C_drewN ?_ _) | (with_reducible refine Kd.C_drew ?_))); (case side6 => exact (Kd.V_reads' HO_490000.out).2.1); (case side7 => repeat (first | exact (Kd.V_reads' HO_490001.out).2.2 | (with_reducible refine Kd.C_alloc ?_ _) | (with_reducible refine Kd.C_drewN ?_ _) | (with_reducible refine Kd.C_drew ?_))); (case side8 => exact (Kd.V_reads' HO_490001.out).2.1); (case side9 => repeat (first | exact (Kd.V_reads' HO_490002.out).2.2 | (with_reducible refine Kd.C_alloc ?_ _) | (with_reducible refine Kd.C_drewN ?_ _) | (with_reducible refine Kd.C_drew ?_))); (case side10 => exact (Kd.V_reads' HO_490002.out).2.1); rintro e w57 ⟨rfl, hb⟩; refine ⟨_, rfl, ?_⟩; have n0_ := Aside0.mk (Kd.V_below (by (with_reducible repeat (first | apply Kd.V_alloc | apply Kd.V_drewN | apply Kd.V_drew)); exact HO_490000.out) hb); have n1_ := Aside0.mk (Kd.V_below (by (with_reducible repeat (first | apply Kd.V_alloc | apply Kd.V_drewN | apply Kd.V_drew)); exact HO_490001.out) hb); have n2_ := Aside0.mk (Kd.V_below (by (with_reducible repeat (first | apply Kd.V_alloc | apply Kd.V_drewN | apply Kd.V_drew)); exact HO_490002.out) hb); have n3_ := Aside0.mk (Kd.V_below (by (with_reducible repeat (first | apply Kd.V_alloc | apply Kd.V_drewN | apply Kd.V_drew)); exact HO_501000.out) hb); have n4_ := Aside0.mk (Kd.V_below (by (with_reducible repeat (first | apply Kd.V_alloc | apply Kd.V_drewN | apply Kd.V_drew)); exact HO_501001.out) hb); have n5_ := Aside0.mk (Kd.V_below (by (with_reducible repeat (first | apply Kd.V_alloc | apply Kd.V_drewN | apply Kd.V_drew)); exact HO_501002.out) hb); have n6_ := Aside0.mk (blk_below (g := gb476) (o := .cells #[.slice A0_0 l0_0.length c0_0, .slice A0_1 l0_1.length c0_1, .int .i64 a0_2, .int .i64 a0_3, .int .i64 a0_4] 25 (0, 0)) (by (with_reducible repeat (first | refine blk_drewN ?_ _ | refine blk_drew ?_ | refine blk_alloc ?_ _)); exact BK476.out) hb); have n7_ := Aside0.mk (blk_below (g := gb489) (o := .cells #[.slice Ao18 t479.length co18, .slice Ao21 t482.length co21, .slice Ao22 t485.length co22] 31 (0, 0)) (by (with_reducible repeat (first | refine blk_drewN ?_ _ | refine blk_drew ?_ | refine blk_alloc ?_ _)); exact BK489.out) hb); have n8_ := Aside0.mk (blk_below (g := gb500) (o := .cells #[.slice Ao26 t490.length co26, .slice Ao30 t493.length co30, .slice Ao31 t496.length co31] 31 (0, 0)) (by (with_reducible repeat (first | refine blk_drewN ?_ _ | refine blk_drew ?_ | refine blk_alloc ?_ _)); exact BK500.out) hb); have n9_ := Aside0.mk (below_step (by repeat (first | (with_reducible first | exact HB.out | apply below_alloc | apply pw_below_drewN | apply below_drew1 | refine below_set ?_ GE476.out | refine below_set ?_ GE489.out | refine below_set ?_ GE500.out) | exact HB.out)) hb); clear HO_490000; clear HO_490001; clear HO_490002; clear HO_501000; clear HO_501001; clear HO_501002; clear BK476; clear BK489; clear BK500; clear HB; have HO_490000 := n0_; have HO_490001 := n1_; have HO_490002 := n2_; have HO_501000 := n3_; have HO_501001 := n4_; have HO_501002 := n5_; have BK476 := n6_; have BK489 := n7_; have BK500 := n8_; have HB := n9_; clear n0_ n1_ n2_ n3_ n4_ n5_ n6_ n7_ n8_ n9_; (try clear hb); (try clear hb2); (try clear hk); (try clear hi); have hcz58_0 : w57.cell? ⟨gb476, 0, none⟩ = some (.slice A0_0 l0_0.length c0_0) := (blk_cell BK476.out 0).trans rfl; have hcz58_1 : w57.cell? ⟨gb476, 1, none⟩ = some (.slice A0_1 l0_1.length c0_1) := (blk_cell BK476.out 1).trans rfl; have hcz58_2 : w57.cell? ⟨gb476, 2, none⟩ = some (.int .i64 a0_2) := (blk_cell BK476.out 2).trans rfl; have hcz58_3 : w57.cell? ⟨gb476, 3, none⟩ = some (.int .i64 a0_3) := (blk_cell BK476.out 3).trans rfl; have hcz58_4 : w57.cell? ⟨gb476, 4, none⟩ = some (.int .i64 a0_4) := (blk_cell BK476.out 4).trans rfl; have hfz58_0 := blk_frozen BK476.out 0; have hfz58_1 := blk_frozen BK476.out 1; have hfz58_2 := blk_frozen BK476.out 2; have hfz58_3 := blk_frozen BK476.out 3; have hfz58_4 := blk_frozen BK476.out 4; have hcz59_0 : w57.cell? ⟨gb500, 0, none⟩ = some (.slice Ao26 t490.length co26) := (blk_cell BK500.out 0).trans rfl; have hcz59_1 : w57.cell? ⟨gb500, 1, none⟩ = some (.slice Ao30 t493.length co30) := (blk_cell BK500.out 1).trans rfl; have hcz59_2 : w57.cell? ⟨gb500, 2, none⟩ = some (.slice Ao31 t496.length co31) := (blk_cell BK500.out 2).trans rfl; have hfz59_0 := blk_frozen BK500.out 0; have hfz59_1 := blk_frozen BK500.out 1; have hfz59_2 := blk_frozen BK500.out 2) | (go_at_call 19; (with_reducible refine (class_Has.calls kj9 _ _ l0_0 _ _ l0_1 a0_2 a0_3 a0_4 _ _ t490 _ _ t493 _ _ t496 false _ ?side1 ?side2 ?side3 ?side4 ?side5 ?side6 ?side7 ?side8 ?side9 ?side10 A37.out).mono ?_); (case side1 => repeat (first | exact (Kd.C_below HR0_0.out HB.out) | (with_reducible refine Kd.C_alloc ?_ _) | (with_reducible refine Kd.C_drewN ?_ _) | (with_reducible refine Kd.C_drew ?_))); (case side2 => exact HC0_0.out); (case side3 => repeat (first | exact (Kd.C_below HR0_1.out HB.out) | (with_reducible refine Kd.C_alloc ?_ _) | (with_reducible refine Kd.C_drewN ?_ _) | (with_reducible refine Kd.C_drew ?_))); (case side4 => exact HC0_1.out); (case side5 => repeat (first | exact (Kd.V_reads' HO_501000.out).2.2 | (with_reducible refine Kd.C_alloc ?_ _) | (with_reducible refine Kd.C_drewN ?_ _) | (with_reducible refine Kd.C_drew ?_))); (case side6 => exact (Kd.V_reads' HO_501000.out).2.1); (case side7 => repeat (first | exact (Kd.V_reads' HO_501001.out).2.2 | (with_reducible refine Kd.C_alloc ?_ _) | (with_reducible refine Kd.C_drewN ?_ _) | (with_reducible refine Kd.C_drew ?_))); (case side8 => exact (Kd.V_reads' HO_501001.out).2.1); (case side9 => repeat (first | exact (Kd.V_reads' HO_501002.out).2.2 | (with_reducible refine Kd.C_alloc ?_ _) | (with_reducible refine Kd.C_drewN ?_ _) | (with_reducible refine Kd.C_drew ?_))); (case side10 => exact (Kd.V_reads' HO_501002.out).2.1); rintro e w60 ⟨rfl, hb⟩; have n0_ := Aside0.mk (Kd.V_below (by (with_reducible repeat (first | apply Kd.V_alloc | apply Kd.V_drewN | apply Kd.V_drew)); exact HO_490000.out) hb); have n1_ := Aside0.mk (Kd.V_below (by (with_reducible repeat (first | apply Kd.V_alloc | apply Kd.V_drewN | apply Kd.V_drew)); exact HO_490001.out) hb); have n2_ := Aside0.mk (Kd.V_below (by (with_reducible repeat (first | apply Kd.V_alloc | apply Kd.V_drewN | apply Kd.V_drew)); exact HO_490002.out) hb); have n3_ := Aside0.mk (Kd.V_below (by (with_reducible repeat (first | apply Kd.V_alloc | apply Kd.V_drewN | apply Kd.V_drew)); exact HO_501000.out) hb); have n4_ := Aside0.mk (Kd.V_below (by (with_reducible repeat (first | apply Kd.V_alloc | apply Kd.V_drewN | apply Kd.V_drew)); exact HO_501001.out) hb); have n5_ := Aside0.mk (Kd.V_below (by (with_reducible repeat (first | apply Kd.V_alloc | apply Kd.V_drewN | apply Kd.V_drew)); exact HO_501002.out) hb); have n6_ := Aside0.mk (blk_below (g := gb476) (o := .cells #[.slice A0_0 l0_0.length c0_0, .slice A0_1 l0_1.length c0_1, .int .i64 a0_2, .int .i64 a0_3, .int .i64 a0_4] 25 (0, 0)) (by (with_reducible repeat (first | refine blk_drewN ?_ _ | refine blk_drew ?_ | refine blk_alloc ?_ _)); exact BK476.out) hb); have n7_ := Aside0.mk (blk_below (g := gb489) (o := .cells #[.slice Ao18 t479.length co18, .slice Ao21 t482.length co21, .slice Ao22 t485.length co22] 31 (0, 0)) (by (with_reducible repeat (first | refine blk_drewN ?_ _ | refine blk_drew ?_ | refine blk_alloc ?_ _)); exact BK489.out) hb); have n8_ := Aside0.mk (blk_below (g := gb500) (o := .cells #[.slice Ao26 t490.length co26, .slice Ao30 t493.length co30, .slice Ao31 t496.length co31] 31 (0, 0)) (by (with_reducible repeat (first | refine blk_drewN ?_ _ | refine blk_drew ?_ | refine blk_alloc ?_ _)); exact BK500.out) hb); have n9_ := Aside0.mk (below_step (by repeat (first | (with_reducible first | exact HB.out | apply below_alloc | apply pw_below_drewN | apply below_drew1 | refine below_set ?_ GE476.out | refine below_set ?_ GE489.out | refine below_set ?_ GE500.out) | exact HB.out)) hb); clear HO_490000; clear HO_490001; clear HO_490002; clear HO_501000; clear HO_501001; clear HO_501002; clear BK476; clear BK489; clear BK500; clear HB; have HO_490000 := n0_; have HO_490001 := n1_; have HO_490002 := n2_; have HO_501000 := n3_; have HO_501001 := n4_; have HO_501002 := n5_; have BK476 := n6_; have BK489 := n7_; have BK500 := n8_; have HB := n9_; clear n0_ n1_ n2_ n3_ n4_ n5_ n6_ n7_ n8_ n9_; (try clear hb); (try clear hb2); (try clear hk); (try clear hi)))
         go_meet
         case rel => exact ⟨_, (true), (by first | rfl | (simp; done) | (simp [*]; done)), H', ⟨by have := HJ9.out; first | omega | exact Nat.le_refl _⟩, ⟨by (with_reducible repeat (first | apply Kd.V_alloc | apply Kd.V_drewN | apply Kd.V_drew)); exact HO_490000.out⟩, ⟨by (with_reducible repeat (first | apply Kd.V_alloc | apply Kd.V_drewN | apply Kd.V_drew)); exact HO_490001.out⟩, ⟨by (with_reducible repeat (first | apply Kd.V_alloc | apply Kd.V_drewN | apply Kd.V_drew)); exact HO_490002.out⟩, ⟨by (with_reducible repeat (first | apply Kd.V_alloc | apply Kd.V_drewN | apply Kd.V_drew)); exact HO_501000.out⟩, ⟨by (with_reducible repeat (first | apply Kd.V_alloc | apply Kd.V_drewN | apply Kd.V_drew)); exact HO_501001.out⟩, ⟨by (with_reducible repeat (first | apply Kd.V_alloc | apply Kd.V_drewN | apply Kd.V_drew)); exact HO_501002.out⟩, ⟨by (with_reducible repeat (first | refine blk_drewN ?_ _ | refine blk_drew ?_ | refine blk_alloc ?_ _)); exact BK476.out⟩, ⟨by (with_reducible repeat (first | refine blk_drewN ?_ _ | refine blk_drew ?_ | refine blk_alloc ?_ _)); exact BK489.out⟩, ⟨by (with_reducible repeat (first | refine blk_drewN ?_ _ | refine blk_drew ?_ | refine blk_alloc ?_ _)); exact BK500.out⟩, ⟨by repeat (first | (with_reducible first | exact HB.out | apply below_alloc | apply pw_below_drewN | apply below_drew1 | refine below_set ?_ GE476.out | refine below_set ?_ GE489.out | refine below_set ?_ GE500.out) | exact HB.out)⟩⟩
       ·replace c36 := Bool.eq_false_iff.mpr c36
        subst c36
        have H1 : (crossroadslaw17_ClassApart.j1 kj9 a1 a2 true t479 t482 t485 t490 t493 t496) = some r := by rw [if_neg (show ¬ (false = true) by decide)] at H; exact H
        clear H
        have H := H1
        clear H1
        have H' := Aside0.mk H
        clear H
        have hnb61 := NB476_489.out
        have hnc61 := NB489_476.out
        have hnb62 := NB476_500.out
        have hnc62 := NB500_476.out
        have hcz63_0 : wc.cell? ⟨gb476, 0, none⟩ = some (.slice A0_0 l0_0.length c0_0) := (blk_cell BK476.out 0).trans rfl
        have hcz63_1 : wc.cell? ⟨gb476, 1, none⟩ = some (.slice A0_1 l0_1.length c0_1) := (blk_cell BK476.out 1).trans rfl
        have hcz63_2 : wc.cell? ⟨gb476, 2, none⟩ = some (.int .i64 a0_2) := (blk_cell BK476.out 2).trans rfl
        have hcz63_3 : wc.cell? ⟨gb476, 3, none⟩ = some (.int .i64 a0_3) := (blk_cell BK476.out 3).trans rfl
        have hcz63_4 : wc.cell? ⟨gb476, 4, none⟩ = some (.int .i64 a0_4) := (blk_cell BK476.out 4).trans rfl
        have hfz63_0 := blk_frozen BK476.out 0
        have hfz63_1 := blk_frozen BK476.out 1
        have hfz63_2 := blk_frozen BK476.out 2
        have hfz63_3 := blk_frozen BK476.out 3
        have hfz63_4 := blk_frozen BK476.out 4
        have hnb64 := NB489_500.out
        have hnc64 := NB500_489.out
        have hcz65_0 : wc.cell? ⟨gb489, 0, none⟩ = some (.slice Ao18 t479.length co18) := (blk_cell BK489.out 0).trans rfl
        have hcz65_1 : wc.cell? ⟨gb489, 1, none⟩ = some (.slice Ao21 t482.length co21) := (blk_cell BK489.out 1).trans rfl
        have hcz65_2 : wc.cell? ⟨gb489, 2, none⟩ = some (.slice Ao22 t485.length co22) := (blk_cell BK489.out 2).trans rfl
        have hfz65_0 := blk_frozen BK489.out 0
        have hfz65_1 := blk_frozen BK489.out 1
        have hfz65_2 := blk_frozen BK489.out 2
        go_wp2_with (first | ((with_reducible refine gate_callee (f := 19) rfl ?_); refine goesL_ (some 43) rfl rfl Try.func19 (by kernel_rfl) rfl #[.agg #[.slice A0_0 l0_0.length c0_0, .slice A0_1 l0_1.length c0_1, .int .i64 a0_2, .int .i64 a0_3, .int .i64 a0_4], .agg #[.slice Ao18 t479.length co18, .slice Ao21 t482.length co21, .slice Ao22 t485.length co22]] rfl (by (try simp only [List.map_toArray, List.map_cons, List.map_nil]); first | done | rfl | (simp only [List.length_drop, List.length_take]; rfl)) ?_; (with_reducible refine (class_Has.calls kj9 _ _ l0_0 _ _ l0_1 a0_2 a0_3 a0_4 _ _ t479 _ _ t482 _ _ t485 false _ ?side1 ?side2 ?side3 ?side4 ?side5 ?side6 ?side7 ?side8 ?side9 ?side10 A35.out).mono ?_); (case side1 => repeat (first | exact (Kd.C_below HR0_0.out HB.out) | (with_reducible refine Kd.C_alloc ?_ _) | (with_reducible refine Kd.C_drewN ?_ _) | (with_reducible refine Kd.C_drew ?_))); (case side2 => exact HC0_0.out); (case side3 => repeat (first | exact (Kd.C_below HR0_1.out HB.out) | (with_reducible refine Kd.C_alloc ?_ _) | (with_reducible refine Kd.C_drewN ?_ _) | (with_reducible refine Kd.C_drew ?_))); (case side4 => exact HC0_1.out); (case side5 => repeat (first | exact (Kd.V_reads' HO_490000.out).2.2 | (with_reducible refine Kd.C_alloc ?_ _) | (with_reducible refine Kd.C_drewN ?_ _) | (with_reducible refine Kd.C_drew ?_))); (case side6 => exact (Kd.V_reads' HO_490000.out).2.1); (case side7 => repeat (first | exact (Kd.V_reads' HO_490001.out).2.2 | (with_reducible refine Kd.C_alloc ?_ _) | (with_reducible refine Kd.C_drewN ?_ _) | (with_reducible refine Kd.C_drew ?_))); (case side8 => exact (Kd.V_reads' HO_490001.out).2.1); (case side9 => repeat (first | exact (Kd.V_reads' HO_490002.out).2.2 | (with_reducible refine Kd.C_alloc ?_ _) | (with_reducible refine Kd.C_drewN ?_ _) | (with_reducible refine Kd.C_drew ?_))); (case side10 => exact (Kd.V_reads' HO_490002.out).2.1); rintro e w66 ⟨rfl, hb⟩; refine ⟨_, rfl, ?_⟩; have n0_ := Aside0.mk (Kd.V_below (by (with_reducible repeat (first | apply Kd.V_alloc | apply Kd.V_drewN | apply Kd.V_drew)); exact HO_490000.out) hb); have n1_ := Aside0.mk (Kd.V_below (by (with_reducible repeat (first | apply Kd.V_alloc | apply Kd.V_drewN | apply Kd.V_drew)); exact HO_490001.out) hb); have n2_ := Aside0.mk (Kd.V_below (by (with_reducible repeat (first | apply Kd.V_alloc | apply Kd.V_drewN | apply Kd.V_drew)); exact HO_490002.out) hb); have n3_ := Aside0.mk (Kd.V_below (by (with_reducible repeat (first | apply Kd.V_alloc | apply Kd.V_drewN | apply Kd.V_drew)); exact HO_501000.out) hb); have n4_ := Aside0.mk (Kd.V_below (by (with_reducible repeat (first | apply Kd.V_alloc | apply Kd.V_drewN | apply Kd.V_drew)); exact HO_501001.out) hb); have n5_ := Aside0.mk (Kd.V_below (by (with_reducible repeat (first | apply Kd.V_alloc | apply Kd.V_drewN | apply Kd.V_drew)); exact HO_501002.out) hb); have n6_ := Aside0.mk (blk_below (g := gb476) (o := .cells #[.slice A0_0 l0_0.length c0_0, .slice A0_1 l0_1.length c0_1, .int .i64 a0_2, .int .i64 a0_3, .int .i64 a0_4] 25 (0, 0)) (by (with_reducible repeat (first | refine blk_drewN ?_ _ | refine blk_drew ?_ | refine blk_alloc ?_ _)); exact BK476.out) hb); have n7_ := Aside0.mk (blk_below (g := gb489) (o := .cells #[.slice Ao18 t479.length co18, .slice Ao21 t482.length co21, .slice Ao22 t485.length co22] 31 (0, 0)) (by (with_reducible repeat (first | refine blk_drewN ?_ _ | refine blk_drew ?_ | refine blk_alloc ?_ _)); exact BK489.out) hb); have n8_ := Aside0.mk (blk_below (g := gb500) (o := .cells #[.slice Ao26 t490.length co26, .slice Ao30 t493.length co30, .slice Ao31 t496.length co31] 31 (0, 0)) (by (with_reducible repeat (first | refine blk_drewN ?_ _ | refine blk_drew ?_ | refine blk_alloc ?_ _)); exact BK500.out) hb); have n9_ := Aside0.mk (below_step (by repeat (first | (with_reducible first | exact HB.out | apply below_alloc | apply pw_below_drewN | apply below_drew1 | refine below_set ?_ GE476.out | refine below_set ?_ GE489.out | refine below_set ?_ GE500.out) | exact HB.out)) hb); clear HO_490000; clear HO_490001; clear HO_490002; clear HO_501000; clear HO_501001; clear HO_501002; clear BK476; clear BK489; clear BK500; clear HB; have HO_490000 := n0_; have HO_490001 := n1_; have HO_490002 := n2_; have HO_501000 := n3_; have HO_501001 := n4_; have HO_501002 := n5_; have BK476 := n6_; have BK489 := n7_; have BK500 := n8_; have HB := n9_; clear n0_ n1_ n2_ n3_ n4_ n5_ n6_ n7_ n8_ n9_; (try clear hb); (try clear hb2); (try clear hk); (try clear hi)))
        go_meet
        case rel => exact ⟨_, (true), (by first | rfl | (simp; done) | (simp [*]; done)), H', ⟨by have := HJ9.out; first | omega | exact Nat.le_refl _⟩, ⟨by (with_reducible repeat (first | apply Kd.V_alloc | apply Kd.V_drewN | apply Kd.V_drew)); exact HO_490000.out⟩, ⟨by (with_reducible repeat (first | apply Kd.V_alloc | apply Kd.V_drewN | apply Kd.V_drew)); exact HO_490001.out⟩, ⟨by (with_reducible repeat (first | apply Kd.V_alloc | apply Kd.V_drewN | apply Kd.V_drew)); exact HO_490002.out⟩, ⟨by (with_reducible repeat (first | apply Kd.V_alloc | apply Kd.V_drewN | apply Kd.V_drew)); exact HO_501000.out⟩, ⟨by (with_reducible repeat (first | apply Kd.V_alloc | apply Kd.V_drewN | apply Kd.V_drew)); exact HO_501001.out⟩, ⟨by (with_reducible repeat (first | apply Kd.V_alloc | apply Kd.V_drewN | apply Kd.V_drew)); exact HO_501002.out⟩, ⟨by (with_reducible repeat (first | refine blk_drewN ?_ _ | refine blk_drew ?_ | refine blk_alloc ?_ _)); exact BK476.out⟩, ⟨by (with_reducible repeat (first | refine blk_drewN ?_ _ | refine blk_drew ?_ | refine blk_alloc ?_ _)); exact BK489.out⟩, ⟨by (with_reducible repeat (first | refine blk_drewN ?_ _ | refine blk_drew ?_ | refine blk_alloc ?_ _)); exact BK500.out⟩, ⟨by repeat (first | (with_reducible first | exact HB.out | apply below_alloc | apply pw_below_drewN | apply below_drew1 | refine below_set ?_ GE476.out | refine below_set ?_ GE489.out | refine below_set ?_ GE500.out) | exact HB.out)⟩⟩
      case rest =>
       clear HC34
       try clear c1
       try clear c2
       try clear p2
       try clear c3
       try clear c4
       try clear c5
       try clear c6
       try clear p6
       try clear c7
       try clear c9
       try clear c10
       try clear c11
       try clear c19
       try clear c27
       try clear c28
       try clear c32
       try clear c33
       try clear c36
       try clear c38
       try clear c40
       try clear c41
       try clear c43
       try clear c52
       try clear c53
       try clear c55
       try clear c61
       try clear c62
       try clear c64
       try clear p64
       try clear hcz13_0
       try clear hcz13_1
       try clear hcz13_2
       try clear hcz13_3
       try clear hcz13_4
       try clear hcz15_0
       try clear hcz15_1
       try clear hcz15_2
       try clear hcz15_3
       try clear hcz15_4
       try clear hcz20_0
       try clear hcz20_1
       try clear hcz20_2
       try clear hcz23_0
       try clear hcz23_1
       try clear hcz23_2
       try clear hcz23_3
       try clear hcz23_4
       try clear hcz29_0
       try clear hcz29_1
       try clear hcz29_2
       try clear hcz42_0
       try clear hcz42_1
       try clear hcz42_2
       try clear hcz42_3
       try clear hcz42_4
       try clear hcz44_0
       try clear hcz44_1
       try clear hcz44_2
       try clear hcz46_0
       try clear hcz46_1
       try clear hcz46_2
       try clear hcz46_3
       try clear hcz46_4
       try clear hcz47_0
       try clear hcz47_1
       try clear hcz47_2
       try clear hcz49_0
       try clear hcz49_1
       try clear hcz49_2
       try clear hcz50_0
       try clear hcz50_1
       try clear hcz50_2
       try clear hcz54_0
       try clear hcz54_1
       try clear hcz54_2
       try clear hcz54_3
       try clear hcz54_4
       try clear hcz56_0
       try clear hcz56_1
       try clear hcz56_2
       try clear hcz58_0
       try clear hcz58_1
       try clear hcz58_2
       try clear hcz58_3
       try clear hcz58_4
       try clear hcz59_0
       try clear hcz59_1
       try clear hcz59_2
       try clear hcz63_0
       try clear hcz63_1
       try clear hcz63_2
       try clear hcz63_3
       try clear hcz63_4
       try clear hcz65_0
       try clear hcz65_1
       try clear hcz65_2
       try clear hfz13_0
       try clear hfz13_1
       try clear hfz13_2
       try clear hfz13_3
       try clear hfz13_4
       try clear hfz15_0
       try clear hfz15_1
       try clear hfz15_2
       try clear hfz15_3
       try clear hfz15_4
       try clear hfz20_0
       try clear hfz20_1
       try clear hfz20_2
       try clear hfz23_0
       try clear hfz23_1
       try clear hfz23_2
       try clear hfz23_3
       try clear hfz23_4
       try clear hfz29_0
       try clear hfz29_1
       try clear hfz29_2
       try clear hfz42_0
       try clear hfz42_1
       try clear hfz42_2
       try clear hfz42_3
       try clear hfz42_4
       try clear hfz44_0
       try clear hfz44_1
       try clear hfz44_2
       try clear hfz46_0
       try clear hfz46_1
       try clear hfz46_2
       try clear hfz46_3
       try clear hfz46_4
       try clear hfz47_0
       try clear hfz47_1
       try clear hfz47_2
       try clear hfz49_0
       try clear hfz49_1
       try clear hfz49_2
       try clear hfz50_0
       try clear hfz50_1
       try clear hfz50_2
       try clear hfz54_0
       try clear hfz54_1
       try clear hfz54_2
       try clear hfz54_3
       try clear hfz54_4
       try clear hfz56_0
       try clear hfz56_1
       try clear hfz56_2
       try clear hfz58_0
       try clear hfz58_1
       try clear hfz58_2
       try clear hfz58_3
       try clear hfz58_4
       try clear hfz59_0
       try clear hfz59_1
       try clear hfz59_2
       try clear hfz63_0
       try clear hfz63_1
       try clear hfz63_2
       try clear hfz63_3
       try clear hfz63_4
       try clear hfz65_0
       try clear hfz65_1
       try clear hfz65_2
       try clear p2
       try clear p6
       obtain ⟨kq, x59_33, rfl, HA, HJ33, HO_490000, HO_490001, HO_490002, HO_501000, HO_501001, HO_501002, BK476, BK489, BK500, HB⟩ := hcut
       cases kq with
       | zero => exact absurd HA.out (by simp [crossroadslaw17_ClassApart.j1])
       | succ kj33 =>
        have H := HA.out
        clear HA
        simp only [crossroadslaw17_ClassApart.j1] at H
        by_cases c67 : x59_33 = true
        ·subst c67
         have H1 : (none) = some r := by rw [if_pos rfl] at H; exact H
         clear H
         have H := H1
         clear H1
         exact absurd H (by simp)
        ·replace c67 := Bool.eq_false_iff.mpr c67
         subst c67
         have H1 : ((some (([] : List (List Int)) : List (List Int))).bind fun y504 => (if y504.length + t479.length < 5864062014805 then ((some (y504 ++ t479 : List (List Int))).bind fun y507 => (if y507.length + t482.length < 5864062014805 then ((some (([] : List (List Int)) : List (List Int))).bind fun y513 => (if y513.length + t490.length < 5864062014805 then ((some (y513 ++ t490 : List (List Int))).bind fun y516 => (if y516.length + t493.length < 5864062014805 then (crossroadslaw17_ClassApart.l0 kj33 a1 a2 (y507 ++ t482) (y516 ++ t493) 0 t479 t482 t485 t490 t493 t496) else (none))) else (none))) else (none))) else (none))) = some r := by rw [if_neg (show ¬ (false = true) by decide)] at H; exact H
         clear H
         have H := H1
         clear H1
         obtain ⟨y504, hy504⟩ : ∃ y_ : List (List Int), y_ = (([] : List (List Int))) := ⟨_, rfl⟩
         replace H : (if y504.length + t479.length < 5864062014805 then ((some (y504 ++ t479 : List (List Int))).bind fun y507 => (if y507.length + t482.length < 5864062014805 then ((some (([] : List (List Int)) : List (List Int))).bind fun y513 => (if y513.length + t490.length < 5864062014805 then ((some (y513 ++ t490 : List (List Int))).bind fun y516 => (if y516.length + t493.length < 5864062014805 then (crossroadslaw17_ClassApart.l0 kj33 a1 a2 (y507 ++ t482) (y516 ++ t493) 0 t479 t482 t485 t490 t493 t496) else (none))) else (none))) else (none))) else (none)) = some r := by first | (rw [hy504]; with_reducible exact H) | (have H2_ := (Option.bind_some _ _).symm.trans H; rw [hy504]; with_reducible exact H2_) | (have H2_ := (Option.bind_some _ _).symm.trans H; with_reducible exact H2_) | with_reducible exact H | (rw [hy504]; exact H) | exact H
         have Ny504 := Aside0.mk hy504
         clear hy504
         by_cases c68 : y504.length + t479.length < 5864062014805
         ·rw [if_pos c68] at H
          have LMc68 := Aside0.mk c68
          clear c68
          obtain ⟨y507, hy507⟩ : ∃ y_ : List (List Int), y_ = (y504 ++ t479) := ⟨_, rfl⟩
          replace H : (if y507.length + t482.length < 5864062014805 then ((some (([] : List (List Int)) : List (List Int))).bind fun y513 => (if y513.length + t490.length < 5864062014805 then ((some (y513 ++ t490 : List (List Int))).bind fun y516 => (if y516.length + t493.length < 5864062014805 then (crossroadslaw17_ClassApart.l0 kj33 a1 a2 (y507 ++ t482) (y516 ++ t493) 0 t479 t482 t485 t490 t493 t496) else (none))) else (none))) else (none)) = some r := by first | (rw [hy507]; with_reducible exact H) | (have H2_ := (Option.bind_some _ _).symm.trans H; rw [hy507]; with_reducible exact H2_) | (have H2_ := (Option.bind_some _ _).symm.trans H; with_reducible exact H2_) | with_reducible exact H | (rw [hy507]; exact H) | exact H
          have Ny507 := Aside0.mk hy507
          clear hy507
          by_cases c69 : y507.length + t482.length < 5864062014805
          ·rw [if_pos c69] at H
           have LMc69 := Aside0.mk c69
           clear c69
           obtain ⟨y510, hy510⟩ : ∃ y_ : List (List Int), y_ = (y507 ++ t482) := ⟨_, rfl⟩
           replace H : ((some (([] : List (List Int)) : List (List Int))).bind fun y513 => (if y513.length + t490.length < 5864062014805 then ((some (y513 ++ t490 : List (List Int))).bind fun y516 => (if y516.length + t493.length < 5864062014805 then (crossroadslaw17_ClassApart.l0 kj33 a1 a2 y510 (y516 ++ t493) 0 t479 t482 t485 t490 t493 t496) else (none))) else (none))) = some r := by first | (rw [hy510]; with_reducible exact H) | (have H2_ := (Option.bind_some _ _).symm.trans H; rw [hy510]; with_reducible exact H2_) | (have H2_ := (Option.bind_some _ _).symm.trans H; with_reducible exact H2_) | with_reducible exact H | (rw [hy510]; exact H) | exact H
           have Ny510 := Aside0.mk hy510
           clear hy510
           obtain ⟨y513, hy513⟩ : ∃ y_ : List (List Int), y_ = (([] : List (List Int))) := ⟨_, rfl⟩
           replace H : (if y513.length + t490.length < 5864062014805 then ((some (y513 ++ t490 : List (List Int))).bind fun y516 => (if y516.length + t493.length < 5864062014805 then (crossroadslaw17_ClassApart.l0 kj33 a1 a2 y510 (y516 ++ t493) 0 t479 t482 t485 t490 t493 t496) else (none))) else (none)) = some r := by first | (rw [hy513]; with_reducible exact H) | (have H2_ := (Option.bind_some _ _).symm.trans H; rw [hy513]; with_reducible exact H2_) | (have H2_ := (Option.bind_some _ _).symm.trans H; with_reducible exact H2_) | with_reducible exact H | (rw [hy513]; exact H) | exact H
           have Ny513 := Aside0.mk hy513
           clear hy513
           by_cases c70 : y513.length + t490.length < 5864062014805
           ·rw [if_pos c70] at H
            have LMc70 := Aside0.mk c70
            clear c70
            obtain ⟨y516, hy516⟩ : ∃ y_ : List (List Int), y_ = (y513 ++ t490) := ⟨_, rfl⟩
            replace H : (if y516.length + t493.length < 5864062014805 then (crossroadslaw17_ClassApart.l0 kj33 a1 a2 y510 (y516 ++ t493) 0 t479 t482 t485 t490 t493 t496) else (none)) = some r := by first | (rw [hy516]; with_reducible exact H) | (have H2_ := (Option.bind_some _ _).symm.trans H; rw [hy516]; with_reducible exact H2_) | (have H2_ := (Option.bind_some _ _).symm.trans H; with_reducible exact H2_) | with_reducible exact H | (rw [hy516]; exact H) | exact H
            have Ny516 := Aside0.mk hy516
            clear hy516
            by_cases c71 : y516.length + t493.length < 5864062014805
            ·rw [if_pos c71] at H
             have LMc71 := Aside0.mk c71
             clear c71
             obtain ⟨y519, hy519⟩ : ∃ y_ : List (List Int), y_ = (y516 ++ t493) := ⟨_, rfl⟩
             replace H : (crossroadslaw17_ClassApart.l0 kj33 a1 a2 y510 y519 0 t479 t482 t485 t490 t493 t496) = some r := by first | (rw [hy519]; with_reducible exact H) | (have H2_ := (Option.bind_some _ _).symm.trans H; rw [hy519]; with_reducible exact H2_) | (have H2_ := (Option.bind_some _ _).symm.trans H; with_reducible exact H2_) | with_reducible exact H | (rw [hy519]; exact H) | exact H
             have Ny519 := Aside0.mk hy519
             clear hy519
             have H' := Aside0.mk H
             clear H
             try go_wp2
             have n0_ := Aside0.mk (Kd.V_drew HO_490000.out)
             have n1_ := Aside0.mk (Kd.V_drew HO_490001.out)
             have n2_ := Aside0.mk (Kd.V_drew HO_490002.out)
             have n3_ := Aside0.mk (Kd.V_drew HO_501000.out)
             have n4_ := Aside0.mk (Kd.V_drew HO_501001.out)
             have n5_ := Aside0.mk (Kd.V_drew HO_501002.out)
             have n6_ := Aside0.mk (blk_drew BK476.out)
             have n7_ := Aside0.mk (blk_drew BK489.out)
             have n8_ := Aside0.mk (blk_drew BK500.out)
             have n9_ := Aside0.mk (below_drew1 HB.out)
             clear HO_490000
             clear HO_490001
             clear HO_490002
             clear HO_501000
             clear HO_501001
             clear HO_501002
             clear BK476
             clear BK489
             clear BK500
             clear HB
             have HO_490000 := n0_
             have HO_490001 := n1_
             have HO_490002 := n2_
             have HO_501000 := n3_
             have HO_501001 := n4_
             have HO_501002 := n5_
             have BK476 := n6_
             have BK489 := n7_
             have BK500 := n8_
             have HB := n9_
             clear n0_ n1_ n2_ n3_ n4_ n5_ n6_ n7_ n8_ n9_
             refine start_ (n := 8) (S := fun w' => w'.cell? ⟨gb489, 0, none⟩ = some (.slice Ao18 t479.length co18) ∧ w'.cell? ⟨gb489, 1, none⟩ = some (.slice Ao21 t482.length co21) ∧ w'.cell? ⟨gb489, 2, none⟩ = some (.slice Ao22 t485.length co22)) (ds := []) (bs 8 0) (by kernel_rfl) rfl rfl ⟨(blk_cell BK489.out 0).trans rfl, (blk_cell BK489.out 1).trans rfl, (blk_cell BK489.out 2).trans rfl⟩ (fun hHeld => ?_); refine with_tabW crossroadslaw17_ClassApart.tab11 crossroadslaw17_ClassApart.bits11 (fun HT_ HW_ => ?_)
             generalize wc.drew = w72 at HO_490000 HO_490001 HO_490002 HO_501000 HO_501001 HO_501002 BK476 BK489 BK500 HB hHeld ⊢
             refine pq_ 1 (some 61) (bs 8 2) rfl rfl (any_of HT_.out (by kernel_rfl)) ?_
             refine pq_ 4 (some 64) (bs 8 18) rfl rfl (any_of HT_.out (by kernel_rfl)) ?_
             refine tq_ 2 (some 62) (bs 8 22) rfl rfl (take_ofW HT_.out HW_.out (by kernel_rfl)) hHeld (Or.inl ⟨by rfl, by rintro w' ⟨s0, s1, s2⟩; go_simp; with_reducible rfl⟩) ?_
             refine tq_ 5 (some 65) (bs 8 54) rfl rfl (take_ofW HT_.out HW_.out (by kernel_rfl)) hHeld (Or.inl ⟨by rfl, by rintro w' ⟨s0, s1, s2⟩; go_simp; with_reducible rfl⟩) ?_
             refine one_ (i := 0) (N := some 60) (bs 8 55) rfl rfl (one_of HT_.out (by kernel_rfl)) (by decide) (fun K hK => ?_)
             refine Kd.N_lit_step (Kd.slice 5 (Kd.int .u8)) _ 42 ?hg (N' := 60) ?hd (xs := ([] : List (List Int))) (inner := []) (ok := (fun k_ => k_ ≠ gb476 ∧ k_ ≠ gb489 ∧ k_ ≠ gb500)) (okp := (fun k_ => k_ ≠ gb476 ∧ k_ ≠ gb489 ∧ k_ ≠ gb500)) ?hr ?hp (fun _ hk => hk) ((show ∀ k_, w72.heap.size ≤ k_ → (fun k_ => k_ ≠ gb476 ∧ k_ ≠ gb489 ∧ k_ ≠ gb500) k_ from fun k_ hk => ⟨Kd.freshB (g := gb476) (o := .cells #[.slice A0_0 l0_0.length c0_0, .slice A0_1 l0_1.length c0_1, .int .i64 a0_2, .int .i64 a0_3, .int .i64 a0_4] 25 (0, 0)) (by (with_reducible repeat (first | refine blk_drewN ?_ _ | refine blk_drew ?_ | refine blk_alloc ?_ _)); exact BK476.out) k_ hk, Kd.freshB (g := gb489) (o := .cells #[.slice Ao18 t479.length co18, .slice Ao21 t482.length co21, .slice Ao22 t485.length co22] 31 (0, 0)) (by (with_reducible repeat (first | refine blk_drewN ?_ _ | refine blk_drew ?_ | refine blk_alloc ?_ _)); exact BK489.out) k_ hk, Kd.freshB (g := gb500) (o := .cells #[.slice Ao26 t490.length co26, .slice Ao30 t493.length co30, .slice Ao31 t496.length co31] 31 (0, 0)) (by (with_reducible repeat (first | refine blk_drewN ?_ _ | refine blk_drew ?_ | refine blk_alloc ?_ _)); exact BK500.out) k_ hk⟩) _ (Nat.le_refl _)) (Below.refl _ _) (Nat.le_refl _) (by simp) ?_; (case hd => rfl); (case hg => rfl); (case hr => first | (go_simp; done) | (go_simp; rfl)); (case hp => exact (Reps.none _ _))
             intro v505 w73 ho74 hb hg_ hnew_
             clear hg_ hnew_
             (first | rw [← Ny504.out] at ho74 | (simp only [Int.reduceToNat] at ho74; rw [← Ny504.out] at ho74))
             have n0_ := Aside0.mk (Kd.V_elder' (by (with_reducible repeat (first | apply Kd.V_alloc | apply Kd.V_drewN | apply Kd.V_drew)); exact HO_490000.out) (Kd.N_base ho74) hb)
             have n1_ := Aside0.mk (Kd.V_elder' (by (with_reducible repeat (first | apply Kd.V_alloc | apply Kd.V_drewN | apply Kd.V_drew)); exact HO_490001.out) (Kd.N_base ho74) hb)
             have n2_ := Aside0.mk (Kd.V_elder' (by (with_reducible repeat (first | apply Kd.V_alloc | apply Kd.V_drewN | apply Kd.V_drew)); exact HO_490002.out) (Kd.N_base ho74) hb)
             have n3_ := Aside0.mk (Kd.V_elder' (by (with_reducible repeat (first | apply Kd.V_alloc | apply Kd.V_drewN | apply Kd.V_drew)); exact HO_501000.out) (Kd.N_base ho74) hb)
             have n4_ := Aside0.mk (Kd.V_elder' (by (with_reducible repeat (first | apply Kd.V_alloc | apply Kd.V_drewN | apply Kd.V_drew)); exact HO_501001.out) (Kd.N_base ho74) hb)
             have n5_ := Aside0.mk (Kd.V_elder' (by (with_reducible repeat (first | apply Kd.V_alloc | apply Kd.V_drewN | apply Kd.V_drew)); exact HO_501002.out) (Kd.N_base ho74) hb)
             have n6_ := Aside0.mk (Kd.N_lower ho74 (below_size (by repeat (first | (with_reducible first | exact HB.out | apply below_alloc | apply pw_below_drewN | apply below_drew1 | refine below_set ?_ GE476.out | refine below_set ?_ GE489.out | refine below_set ?_ GE500.out) | exact HB.out))))
             have n7_ := Aside0.mk (blk_below (g := gb476) (o := .cells #[.slice A0_0 l0_0.length c0_0, .slice A0_1 l0_1.length c0_1, .int .i64 a0_2, .int .i64 a0_3, .int .i64 a0_4] 25 (0, 0)) (by (with_reducible repeat (first | refine blk_drewN ?_ _ | refine blk_drew ?_ | refine blk_alloc ?_ _)); exact BK476.out) hb)
             have n8_ := Aside0.mk (blk_below (g := gb489) (o := .cells #[.slice Ao18 t479.length co18, .slice Ao21 t482.length co21, .slice Ao22 t485.length co22] 31 (0, 0)) (by (with_reducible repeat (first | refine blk_drewN ?_ _ | refine blk_drew ?_ | refine blk_alloc ?_ _)); exact BK489.out) hb)
             have n9_ := Aside0.mk (blk_below (g := gb500) (o := .cells #[.slice Ao26 t490.length co26, .slice Ao30 t493.length co30, .slice Ao31 t496.length co31] 31 (0, 0)) (by (with_reducible repeat (first | refine blk_drewN ?_ _ | refine blk_drew ?_ | refine blk_alloc ?_ _)); exact BK500.out) hb)
             have n10_ := Aside0.mk (below_step (by repeat (first | (with_reducible first | exact HB.out | apply below_alloc | apply pw_below_drewN | apply below_drew1 | refine below_set ?_ GE476.out | refine below_set ?_ GE489.out | refine below_set ?_ GE500.out) | exact HB.out)) hb)
             clear HO_490000
             clear HO_490001
             clear HO_490002
             clear HO_501000
             clear HO_501001
             clear HO_501002
             clear BK476
             clear BK489
             clear BK500
             clear HB
             have HO_490000 := n0_
             have HO_490001 := n1_
             have HO_490002 := n2_
             have HO_501000 := n3_
             have HO_501001 := n4_
             have HO_501002 := n5_
             have HO506 := n6_
             have BK476 := n7_
             have BK489 := n8_
             have BK500 := n9_
             have HB := n10_
             clear n0_ n1_ n2_ n3_ n4_ n5_ n6_ n7_ n8_ n9_ n10_
             clear hb ho74
             refine hK.out _ _ ⟨(blk_cell BK489.out 0).trans rfl, (blk_cell BK489.out 1).trans rfl, (blk_cell BK489.out 2).trans rfl⟩ (fun hHeld => ?_)
             clear hK K
             refine norm_ (a' := ?_) ?_ ?_
             rotate_left
             ·show Act.put _ (some 60) _ = _
              simp only [Act.put, List.setIfInBounds_toArray, List.set_cons_zero, List.set_cons_succ, i64_w, i32_w]
              rfl
             refine one_ (i := 3) (N := some 63) (bs 8 63) rfl rfl (one_of HT_.out (by kernel_rfl)) (by decide) (fun K hK => ?_)
             refine Kd.N_append_rows_step (Kd.slice 5 (Kd.int .u8)) (w0 := w) w.heap.size (by rfl) (.tmp 60) (.tmp 62) 28 42 (.slice none 0 0) 24 rfl Try.underlying28 info42 rfl (by decide) (by omega) v505 y504 t479 _ _ _ (fun k_ => k_ ≠ gb476 ∧ k_ ≠ gb489 ∧ k_ ≠ gb500) (fun k_ => ((fun k_ => k_ ≠ gb476 ∧ k_ ≠ gb489 ∧ k_ ≠ gb500)) k_ ∧ some k_ ≠ (v505 : Value).ownBlock) rfl rfl ?aO ?aR (fun _ hk => hk) ?aF ?aB ?aS ?aL ?_
             (case aR => exact (by skip; exact Kd.V_F (Kd.V_mono (ok' := (fun k_ => ((fun k_ => k_ ≠ gb476 ∧ k_ ≠ gb489 ∧ k_ ≠ gb500)) k_ ∧ some k_ ≠ (v505 : Value).ownBlock)) (HO_490000.out) (fun k_ hk => ⟨⟨hk.1.1, ⟨hk.1.2.1, hk.1.2.2⟩⟩, hk.2⟩))))
             (case aB => exact (by repeat (first | (with_reducible first | exact HB.out | apply below_alloc | apply pw_below_drewN | apply below_drew1 | refine below_set ?_ GE476.out | refine below_set ?_ GE489.out | refine below_set ?_ GE500.out) | exact HB.out)))
             (case aF => exact (fun k_ hk => ⟨Kd.freshB (g := gb476) (o := .cells #[.slice A0_0 l0_0.length c0_0, .slice A0_1 l0_1.length c0_1, .int .i64 a0_2, .int .i64 a0_3, .int .i64 a0_4] 25 (0, 0)) (by (with_reducible repeat (first | refine blk_drewN ?_ _ | refine blk_drew ?_ | refine blk_alloc ?_ _)); exact BK476.out) k_ hk, Kd.freshB (g := gb489) (o := .cells #[.slice Ao18 t479.length co18, .slice Ao21 t482.length co21, .slice Ao22 t485.length co22] 31 (0, 0)) (by (with_reducible repeat (first | refine blk_drewN ?_ _ | refine blk_drew ?_ | refine blk_alloc ?_ _)); exact BK489.out) k_ hk, Kd.freshB (g := gb500) (o := .cells #[.slice Ao26 t490.length co26, .slice Ao30 t493.length co30, .slice Ao31 t496.length co31] 31 (0, 0)) (by (with_reducible repeat (first | refine blk_drewN ?_ _ | refine blk_drew ?_ | refine blk_alloc ?_ _)); exact BK500.out) k_ hk⟩))
             (case aO => exact (by (with_reducible repeat (first | apply Kd.N_alloc | apply Kd.N_drewN | apply Kd.N_drew)); exact HO506.out))
             (case aS => exact (below_size (by repeat (first | (with_reducible first | exact HB.out | apply below_alloc | apply pw_below_drewN | apply below_drew1 | refine below_set ?_ GE476.out | refine below_set ?_ GE489.out | refine below_set ?_ GE500.out) | exact HB.out))))
             (case aL => have := LMc68.out; omega)
             intro v508 w75 ho hb hg hat
             rw [← Ny507.out] at ho
             have n0_ := Aside0.mk (Kd.V_afterv (ok := (fun k_ => k_ ≠ gb476 ∧ k_ ≠ gb489 ∧ k_ ≠ gb500)) (by (with_reducible repeat (first | apply Kd.V_alloc | apply Kd.V_drewN | apply Kd.V_drew)); exact HO_490000.out) hg hat)
             have n1_ := Aside0.mk (Kd.V_afterv (ok := (fun k_ => k_ ≠ gb476 ∧ k_ ≠ gb489 ∧ k_ ≠ gb500)) (by (with_reducible repeat (first | apply Kd.V_alloc | apply Kd.V_drewN | apply Kd.V_drew)); exact HO_490001.out) hg hat)
             have n2_ := Aside0.mk (Kd.V_afterv (ok := (fun k_ => k_ ≠ gb476 ∧ k_ ≠ gb489 ∧ k_ ≠ gb500)) (by (with_reducible repeat (first | apply Kd.V_alloc | apply Kd.V_drewN | apply Kd.V_drew)); exact HO_490002.out) hg hat)
             have n3_ := Aside0.mk (Kd.V_afterv (ok := (fun k_ => k_ ≠ gb476 ∧ k_ ≠ gb489 ∧ k_ ≠ gb500)) (by (with_reducible repeat (first | apply Kd.V_alloc | apply Kd.V_drewN | apply Kd.V_drew)); exact HO_501000.out) hg hat)
             have n4_ := Aside0.mk (Kd.V_afterv (ok := (fun k_ => k_ ≠ gb476 ∧ k_ ≠ gb489 ∧ k_ ≠ gb500)) (by (with_reducible repeat (first | apply Kd.V_alloc | apply Kd.V_drewN | apply Kd.V_drew)); exact HO_501001.out) hg hat)
             have n5_ := Aside0.mk (Kd.V_afterv (ok := (fun k_ => k_ ≠ gb476 ∧ k_ ≠ gb489 ∧ k_ ≠ gb500)) (by (with_reducible repeat (first | apply Kd.V_alloc | apply Kd.V_drewN | apply Kd.V_drew)); exact HO_501002.out) hg hat)
             have n6_ := Aside0.mk (blk_grown (g := gb476) (o := .cells #[.slice A0_0 l0_0.length c0_0, .slice A0_1 l0_1.length c0_1, .int .i64 a0_2, .int .i64 a0_3, .int .i64 a0_4] 25 (0, 0)) (by (with_reducible repeat (first | refine blk_drewN ?_ _ | refine blk_drew ?_ | refine blk_alloc ?_ _)); exact BK476.out) hg (Kd.N_ne HO506.out BK476.out (by decide)))
             have n7_ := Aside0.mk (blk_grown (g := gb489) (o := .cells #[.slice Ao18 t479.length co18, .slice Ao21 t482.length co21, .slice Ao22 t485.length co22] 31 (0, 0)) (by (with_reducible repeat (first | refine blk_drewN ?_ _ | refine blk_drew ?_ | refine blk_alloc ?_ _)); exact BK489.out) hg (Kd.N_ne HO506.out BK489.out (by decide)))
             have n8_ := Aside0.mk (blk_grown (g := gb500) (o := .cells #[.slice Ao26 t490.length co26, .slice Ao30 t493.length co30, .slice Ao31 t496.length co31] 31 (0, 0)) (by (with_reducible repeat (first | refine blk_drewN ?_ _ | refine blk_drew ?_ | refine blk_alloc ?_ _)); exact BK500.out) hg (Kd.N_ne HO506.out BK500.out (by decide)))
             have n9_ := Aside0.mk (hb)
             have n10_ := Aside0.mk (ho)
             clear HO_490000
             clear HO_490001
             clear HO_490002
             clear HO_501000
             clear HO_501001
             clear HO_501002
             clear BK476
             clear BK489
             clear BK500
             clear HB
             clear HO506
             have HO_490000 := n0_
             have HO_490001 := n1_
             have HO_490002 := n2_
             have HO_501000 := n3_
             have HO_501001 := n4_
             have HO_501002 := n5_
             have BK476 := n6_
             have BK489 := n7_
             have BK500 := n8_
             have HB := n9_
             have HO509 := n10_
             clear n0_ n1_ n2_ n3_ n4_ n5_ n6_ n7_ n8_ n9_ n10_
             clear ho hb hg hat
             refine hK.out _ _ ⟨(blk_cell BK489.out 0).trans rfl, (blk_cell BK489.out 1).trans rfl, (blk_cell BK489.out 2).trans rfl⟩ (fun hHeld => ?_)
             clear hK K
             refine norm_ (a' := ?_) ?_ ?_
             rotate_left
             ·show Act.put _ (some 63) _ = _
              simp only [Act.put, List.setIfInBounds_toArray, List.set_cons_zero, List.set_cons_succ, i64_w, i32_w]
              rfl
             refine one_ (i := 6) (N := some 66) (bs 8 127) rfl rfl (one_of HT_.out (by kernel_rfl)) (by decide) (fun K hK => ?_)
             refine Kd.N_append_rows_step (Kd.slice 5 (Kd.int .u8)) (w0 := w) w.heap.size (by rfl) (.tmp 63) (.tmp 65) 28 42 (.slice none 0 0) 24 rfl Try.underlying28 info42 rfl (by decide) (by omega) v508 y507 t482 _ _ _ (fun k_ => k_ ≠ gb476 ∧ k_ ≠ gb489 ∧ k_ ≠ gb500) (fun k_ => ((fun k_ => k_ ≠ gb476 ∧ k_ ≠ gb489 ∧ k_ ≠ gb500)) k_ ∧ some k_ ≠ (v508 : Value).ownBlock) rfl rfl ?aO ?aR (fun _ hk => hk) ?aF ?aB ?aS ?aL ?_
             (case aR => exact (by skip; exact Kd.V_F (Kd.V_mono (ok' := (fun k_ => ((fun k_ => k_ ≠ gb476 ∧ k_ ≠ gb489 ∧ k_ ≠ gb500)) k_ ∧ some k_ ≠ (v508 : Value).ownBlock)) (HO_490001.out) (fun k_ hk => ⟨⟨hk.1.1, ⟨hk.1.2.1, hk.1.2.2⟩⟩, hk.2⟩))))
             (case aB => exact (by repeat (first | (with_reducible first | exact HB.out | apply below_alloc | apply pw_below_drewN | apply below_drew1 | refine below_set ?_ GE476.out | refine below_set ?_ GE489.out | refine below_set ?_ GE500.out) | exact HB.out)))
             (case aF => exact (fun k_ hk => ⟨Kd.freshB (g := gb476) (o := .cells #[.slice A0_0 l0_0.length c0_0, .slice A0_1 l0_1.length c0_1, .int .i64 a0_2, .int .i64 a0_3, .int .i64 a0_4] 25 (0, 0)) (by (with_reducible repeat (first | refine blk_drewN ?_ _ | refine blk_drew ?_ | refine blk_alloc ?_ _)); exact BK476.out) k_ hk, Kd.freshB (g := gb489) (o := .cells #[.slice Ao18 t479.length co18, .slice Ao21 t482.length co21, .slice Ao22 t485.length co22] 31 (0, 0)) (by (with_reducible repeat (first | refine blk_drewN ?_ _ | refine blk_drew ?_ | refine blk_alloc ?_ _)); exact BK489.out) k_ hk, Kd.freshB (g := gb500) (o := .cells #[.slice Ao26 t490.length co26, .slice Ao30 t493.length co30, .slice Ao31 t496.length co31] 31 (0, 0)) (by (with_reducible repeat (first | refine blk_drewN ?_ _ | refine blk_drew ?_ | refine blk_alloc ?_ _)); exact BK500.out) k_ hk⟩))
             (case aO => exact (by (with_reducible repeat (first | apply Kd.N_alloc | apply Kd.N_drewN | apply Kd.N_drew)); exact HO509.out))
             (case aS => exact (below_size (by repeat (first | (with_reducible first | exact HB.out | apply below_alloc | apply pw_below_drewN | apply below_drew1 | refine below_set ?_ GE476.out | refine below_set ?_ GE489.out | refine below_set ?_ GE500.out) | exact HB.out))))
             (case aL => have := LMc69.out; omega)
             intro v511 w76 ho hb hg hat
             rw [← Ny510.out] at ho
             have n0_ := Aside0.mk (Kd.V_afterv (ok := (fun k_ => k_ ≠ gb476 ∧ k_ ≠ gb489 ∧ k_ ≠ gb500)) (by (with_reducible repeat (first | apply Kd.V_alloc | apply Kd.V_drewN | apply Kd.V_drew)); exact HO_490000.out) hg hat)
             have n1_ := Aside0.mk (Kd.V_afterv (ok := (fun k_ => k_ ≠ gb476 ∧ k_ ≠ gb489 ∧ k_ ≠ gb500)) (by (with_reducible repeat (first | apply Kd.V_alloc | apply Kd.V_drewN | apply Kd.V_drew)); exact HO_490001.out) hg hat)
             have n2_ := Aside0.mk (Kd.V_afterv (ok := (fun k_ => k_ ≠ gb476 ∧ k_ ≠ gb489 ∧ k_ ≠ gb500)) (by (with_reducible repeat (first | apply Kd.V_alloc | apply Kd.V_drewN | apply Kd.V_drew)); exact HO_490002.out) hg hat)
             have n3_ := Aside0.mk (Kd.V_afterv (ok := (fun k_ => k_ ≠ gb476 ∧ k_ ≠ gb489 ∧ k_ ≠ gb500)) (by (with_reducible repeat (first | apply Kd.V_alloc | apply Kd.V_drewN | apply Kd.V_drew)); exact HO_501000.out) hg hat)
             have n4_ := Aside0.mk (Kd.V_afterv (ok := (fun k_ => k_ ≠ gb476 ∧ k_ ≠ gb489 ∧ k_ ≠ gb500)) (by (with_reducible repeat (first | apply Kd.V_alloc | apply Kd.V_drewN | apply Kd.V_drew)); exact HO_501001.out) hg hat)
             have n5_ := Aside0.mk (Kd.V_afterv (ok := (fun k_ => k_ ≠ gb476 ∧ k_ ≠ gb489 ∧ k_ ≠ gb500)) (by (with_reducible repeat (first | apply Kd.V_alloc | apply Kd.V_drewN | apply Kd.V_drew)); exact HO_501002.out) hg hat)
             have n6_ := Aside0.mk (blk_grown (g := gb476) (o := .cells #[.slice A0_0 l0_0.length c0_0, .slice A0_1 l0_1.length c0_1, .int .i64 a0_2, .int .i64 a0_3, .int .i64 a0_4] 25 (0, 0)) (by (with_reducible repeat (first | refine blk_drewN ?_ _ | refine blk_drew ?_ | refine blk_alloc ?_ _)); exact BK476.out) hg (Kd.N_ne HO509.out BK476.out (by decide)))
             have n7_ := Aside0.mk (blk_grown (g := gb489) (o := .cells #[.slice Ao18 t479.length co18, .slice Ao21 t482.length co21, .slice Ao22 t485.length co22] 31 (0, 0)) (by (with_reducible repeat (first | refine blk_drewN ?_ _ | refine blk_drew ?_ | refine blk_alloc ?_ _)); exact BK489.out) hg (Kd.N_ne HO509.out BK489.out (by decide)))
             have n8_ := Aside0.mk (blk_grown (g := gb500) (o := .cells #[.slice Ao26 t490.length co26, .slice Ao30 t493.length co30, .slice Ao31 t496.length co31] 31 (0, 0)) (by (with_reducible repeat (first | refine blk_drewN ?_ _ | refine blk_drew ?_ | refine blk_alloc ?_ _)); exact BK500.out) hg (Kd.N_ne HO509.out BK500.out (by decide)))
             have n9_ := Aside0.mk (hb)
             have n10_ := Aside0.mk (ho)
             clear HO_490000
             clear HO_490001
             clear HO_490002
             clear HO_501000
             clear HO_501001
             clear HO_501002
             clear BK476
             clear BK489
             clear BK500
             clear HB
             clear HO509
             have HO_490000 := n0_
             have HO_490001 := n1_
             have HO_490002 := n2_
             have HO_501000 := n3_
             have HO_501001 := n4_
             have HO_501002 := n5_
             have BK476 := n6_
             have BK489 := n7_
             have BK500 := n8_
             have HB := n9_
             have HO512 := n10_
             clear n0_ n1_ n2_ n3_ n4_ n5_ n6_ n7_ n8_ n9_ n10_
             clear ho hb hg hat
             refine hK.out _ _ ⟨(blk_cell BK489.out 0).trans rfl, (blk_cell BK489.out 1).trans rfl, (blk_cell BK489.out 2).trans rfl⟩ (fun hHeld => ?_)
             clear hK K
             refine norm_ (a' := ?_) ?_ ?_
             rotate_left
             ·show Act.put _ (some 66) _ = _
              simp only [Act.put, List.setIfInBounds_toArray, List.set_cons_zero, List.set_cons_succ, i64_w, i32_w]
              rfl
             refine pq_ 7 (some 11) (bs 8 255) rfl rfl (any_of HT_.out (by kernel_rfl)) ?_
             refine done_ (done_of HT_.out (by kernel_rfl)) ?_
             try go_wp2
             have n0_ := Aside0.mk (Kd.V_drew HO_490000.out)
             have n1_ := Aside0.mk (Kd.V_drew HO_490001.out)
             have n2_ := Aside0.mk (Kd.V_drew HO_490002.out)
             have n3_ := Aside0.mk (Kd.V_drew HO_501000.out)
             have n4_ := Aside0.mk (Kd.V_drew HO_501001.out)
             have n5_ := Aside0.mk (Kd.V_drew HO_501002.out)
             have n6_ := Aside0.mk (Kd.N_drew HO512.out)
             have n7_ := Aside0.mk (blk_drew BK476.out)
             have n8_ := Aside0.mk (blk_drew BK489.out)
             have n9_ := Aside0.mk (blk_drew BK500.out)
             have n10_ := Aside0.mk (below_drew1 HB.out)
             clear HO_490000
             clear HO_490001
             clear HO_490002
             clear HO_501000
             clear HO_501001
             clear HO_501002
             clear HO512
             clear BK476
             clear BK489
             clear BK500
             clear HB
             have HO_490000 := n0_
             have HO_490001 := n1_
             have HO_490002 := n2_
             have HO_501000 := n3_
             have HO_501001 := n4_
             have HO_501002 := n5_
             have HO512 := n6_
             have BK476 := n7_
             have BK489 := n8_
             have BK500 := n9_
             have HB := n10_
             clear n0_ n1_ n2_ n3_ n4_ n5_ n6_ n7_ n8_ n9_ n10_
             refine start_ (n := 8) (S := fun w' => w'.cell? ⟨gb500, 0, none⟩ = some (.slice Ao26 t490.length co26) ∧ w'.cell? ⟨gb500, 1, none⟩ = some (.slice Ao30 t493.length co30) ∧ w'.cell? ⟨gb500, 2, none⟩ = some (.slice Ao31 t496.length co31)) (ds := []) (bs 8 0) (by kernel_rfl) rfl rfl ⟨(blk_cell BK500.out 0).trans rfl, (blk_cell BK500.out 1).trans rfl, (blk_cell BK500.out 2).trans rfl⟩ (fun hHeld => ?_); refine with_tabW crossroadslaw17_ClassApart.tab12 crossroadslaw17_ClassApart.bits12 (fun HT_ HW_ => ?_)
             generalize w76.drew = w77 at HO_490000 HO_490001 HO_490002 HO_501000 HO_501001 HO_501002 HO512 BK476 BK489 BK500 HB hHeld ⊢
             refine pq_ 1 (some 68) (bs 8 2) rfl rfl (any_of HT_.out (by kernel_rfl)) ?_
             refine pq_ 4 (some 71) (bs 8 18) rfl rfl (any_of HT_.out (by kernel_rfl)) ?_
             refine tq_ 2 (some 69) (bs 8 22) rfl rfl (take_ofW HT_.out HW_.out (by kernel_rfl)) hHeld (Or.inl ⟨by rfl, by rintro w' ⟨s0, s1, s2⟩; go_simp; with_reducible rfl⟩) ?_
             refine tq_ 5 (some 72) (bs 8 54) rfl rfl (take_ofW HT_.out HW_.out (by kernel_rfl)) hHeld (Or.inl ⟨by rfl, by rintro w' ⟨s0, s1, s2⟩; go_simp; with_reducible rfl⟩) ?_
             refine one_ (i := 0) (N := some 67) (bs 8 55) rfl rfl (one_of HT_.out (by kernel_rfl)) (by decide) (fun K hK => ?_)
             refine Kd.N_lit_step (Kd.slice 5 (Kd.int .u8)) _ 42 ?hg (N' := 67) ?hd (xs := ([] : List (List Int))) (inner := []) (ok := (fun k_ => some k_ ≠ (v511 : Value).ownBlock ∧ k_ ≠ gb476 ∧ k_ ≠ gb489 ∧ k_ ≠ gb500)) (okp := (fun k_ => some k_ ≠ (v511 : Value).ownBlock ∧ k_ ≠ gb476 ∧ k_ ≠ gb489 ∧ k_ ≠ gb500)) ?hr ?hp (fun _ hk => hk) ((show ∀ k_, w77.heap.size ≤ k_ → (fun k_ => some k_ ≠ (v511 : Value).ownBlock ∧ k_ ≠ gb476 ∧ k_ ≠ gb489 ∧ k_ ≠ gb500) k_ from fun k_ hk => ⟨Kd.fresh' (Kd.N_lt (by (with_reducible repeat (first | apply Kd.N_alloc | apply Kd.N_drewN | apply Kd.N_drew)); exact HO512.out)) k_ hk, Kd.freshB (g := gb476) (o := .cells #[.slice A0_0 l0_0.length c0_0, .slice A0_1 l0_1.length c0_1, .int .i64 a0_2, .int .i64 a0_3, .int .i64 a0_4] 25 (0, 0)) (by (with_reducible repeat (first | refine blk_drewN ?_ _ | refine blk_drew ?_ | refine blk_alloc ?_ _)); exact BK476.out) k_ hk, Kd.freshB (g := gb489) (o := .cells #[.slice Ao18 t479.length co18, .slice Ao21 t482.length co21, .slice Ao22 t485.length co22] 31 (0, 0)) (by (with_reducible repeat (first | refine blk_drewN ?_ _ | refine blk_drew ?_ | refine blk_alloc ?_ _)); exact BK489.out) k_ hk, Kd.freshB (g := gb500) (o := .cells #[.slice Ao26 t490.length co26, .slice Ao30 t493.length co30, .slice Ao31 t496.length co31] 31 (0, 0)) (by (with_reducible repeat (first | refine blk_drewN ?_ _ | refine blk_drew ?_ | refine blk_alloc ?_ _)); exact BK500.out) k_ hk⟩) _ (Nat.le_refl _)) (Below.refl _ _) (Nat.le_refl _) (by simp) ?_; (case hd => rfl); (case hg => rfl); (case hr => first | (go_simp; done) | (go_simp; rfl)); (case hp => exact (Reps.none _ _))
             intro v514 w78 ho79 hb hg_ hnew_
             clear hg_ hnew_
             (first | rw [← Ny513.out] at ho79 | (simp only [Int.reduceToNat] at ho79; rw [← Ny513.out] at ho79))
             have n0_ := Aside0.mk (Kd.V_elder' (by (with_reducible repeat (first | apply Kd.V_alloc | apply Kd.V_drewN | apply Kd.V_drew)); exact HO_490000.out) (Kd.N_base ho79) hb)
             have n1_ := Aside0.mk (Kd.V_elder' (by (with_reducible repeat (first | apply Kd.V_alloc | apply Kd.V_drewN | apply Kd.V_drew)); exact HO_490001.out) (Kd.N_base ho79) hb)
             have n2_ := Aside0.mk (Kd.V_elder' (by (with_reducible repeat (first | apply Kd.V_alloc | apply Kd.V_drewN | apply Kd.V_drew)); exact HO_490002.out) (Kd.N_base ho79) hb)
             have n3_ := Aside0.mk (Kd.V_elder' (by (with_reducible repeat (first | apply Kd.V_alloc | apply Kd.V_drewN | apply Kd.V_drew)); exact HO_501000.out) (Kd.N_base ho79) hb)
             have n4_ := Aside0.mk (Kd.V_elder' (by (with_reducible repeat (first | apply Kd.V_alloc | apply Kd.V_drewN | apply Kd.V_drew)); exact HO_501001.out) (Kd.N_base ho79) hb)
             have n5_ := Aside0.mk (Kd.V_elder' (by (with_reducible repeat (first | apply Kd.V_alloc | apply Kd.V_drewN | apply Kd.V_drew)); exact HO_501002.out) (Kd.N_base ho79) hb)
             have n6_ := Aside0.mk (Kd.N_elder' (by (with_reducible repeat (first | apply Kd.N_alloc | apply Kd.N_drewN | apply Kd.N_drew)); exact HO512.out) (Kd.N_base ho79) hb)
             have n7_ := Aside0.mk (Kd.N_lower ho79 (below_size (by repeat (first | (with_reducible first | exact HB.out | apply below_alloc | apply pw_below_drewN | apply below_drew1 | refine below_set ?_ GE476.out | refine below_set ?_ GE489.out | refine below_set ?_ GE500.out) | exact HB.out))))
             have n8_ := Aside0.mk (blk_below (g := gb476) (o := .cells #[.slice A0_0 l0_0.length c0_0, .slice A0_1 l0_1.length c0_1, .int .i64 a0_2, .int .i64 a0_3, .int .i64 a0_4] 25 (0, 0)) (by (with_reducible repeat (first | refine blk_drewN ?_ _ | refine blk_drew ?_ | refine blk_alloc ?_ _)); exact BK476.out) hb)
             have n9_ := Aside0.mk (blk_below (g := gb489) (o := .cells #[.slice Ao18 t479.length co18, .slice Ao21 t482.length co21, .slice Ao22 t485.length co22] 31 (0, 0)) (by (with_reducible repeat (first | refine blk_drewN ?_ _ | refine blk_drew ?_ | refine blk_alloc ?_ _)); exact BK489.out) hb)
             have n10_ := Aside0.mk (blk_below (g := gb500) (o := .cells #[.slice Ao26 t490.length co26, .slice Ao30 t493.length co30, .slice Ao31 t496.length co31] 31 (0, 0)) (by (with_reducible repeat (first | refine blk_drewN ?_ _ | refine blk_drew ?_ | refine blk_alloc ?_ _)); exact BK500.out) hb)
             have n11_ := Aside0.mk (below_step (by repeat (first | (with_reducible first | exact HB.out | apply below_alloc | apply pw_below_drewN | apply below_drew1 | refine below_set ?_ GE476.out | refine below_set ?_ GE489.out | refine below_set ?_ GE500.out) | exact HB.out)) hb)
             clear HO_490000
             clear HO_490001
             clear HO_490002
             clear HO_501000
             clear HO_501001
             clear HO_501002
             clear HO512
             clear BK476
             clear BK489
             clear BK500
             clear HB
             have HO_490000 := n0_
             have HO_490001 := n1_
             have HO_490002 := n2_
             have HO_501000 := n3_
             have HO_501001 := n4_
             have HO_501002 := n5_
             have HO512 := n6_
             have HO515 := n7_
             have BK476 := n8_
             have BK489 := n9_
             have BK500 := n10_
             have HB := n11_
             clear n0_ n1_ n2_ n3_ n4_ n5_ n6_ n7_ n8_ n9_ n10_ n11_
             clear hb ho79
             refine hK.out _ _ ⟨(blk_cell BK500.out 0).trans rfl, (blk_cell BK500.out 1).trans rfl, (blk_cell BK500.out 2).trans rfl⟩ (fun hHeld => ?_)
             clear hK K
             refine norm_ (a' := ?_) ?_ ?_
             rotate_left
             ·show Act.put _ (some 67) _ = _
              simp only [Act.put, List.setIfInBounds_toArray, List.set_cons_zero, List.set_cons_succ, i64_w, i32_w]
              rfl
             refine one_ (i := 3) (N := some 70) (bs 8 63) rfl rfl (one_of HT_.out (by kernel_rfl)) (by decide) (fun K hK => ?_)
             refine Kd.N_append_rows_step (Kd.slice 5 (Kd.int .u8)) (w0 := w) w.heap.size (by rfl) (.tmp 67) (.tmp 69) 28 42 (.slice none 0 0) 24 rfl Try.underlying28 info42 rfl (by decide) (by omega) v514 y513 t490 _ _ _ (fun k_ => some k_ ≠ (v511 : Value).ownBlock ∧ k_ ≠ gb476 ∧ k_ ≠ gb489 ∧ k_ ≠ gb500) (fun k_ => ((fun k_ => some k_ ≠ (v511 : Value).ownBlock ∧ k_ ≠ gb476 ∧ k_ ≠ gb489 ∧ k_ ≠ gb500)) k_ ∧ some k_ ≠ (v514 : Value).ownBlock) rfl rfl ?aO ?aR (fun _ hk => hk) ?aF ?aB ?aS ?aL ?_
             (case aR => exact (by skip; exact Kd.V_F (Kd.V_mono (ok' := (fun k_ => ((fun k_ => some k_ ≠ (v511 : Value).ownBlock ∧ k_ ≠ gb476 ∧ k_ ≠ gb489 ∧ k_ ≠ gb500)) k_ ∧ some k_ ≠ (v514 : Value).ownBlock)) (HO_501000.out) (fun k_ hk => ⟨⟨hk.1.2, ⟨hk.1.1.1, ⟨hk.1.1.2.1, hk.1.1.2.2⟩⟩⟩, hk.2⟩))))
             (case aB => exact (by repeat (first | (with_reducible first | exact HB.out | apply below_alloc | apply pw_below_drewN | apply below_drew1 | refine below_set ?_ GE476.out | refine below_set ?_ GE489.out | refine below_set ?_ GE500.out) | exact HB.out)))
             (case aF => exact (fun k_ hk => ⟨Kd.fresh' (Kd.N_lt (by (with_reducible repeat (first | apply Kd.N_alloc | apply Kd.N_drewN | apply Kd.N_drew)); exact HO512.out)) k_ hk, Kd.freshB (g := gb476) (o := .cells #[.slice A0_0 l0_0.length c0_0, .slice A0_1 l0_1.length c0_1, .int .i64 a0_2, .int .i64 a0_3, .int .i64 a0_4] 25 (0, 0)) (by (with_reducible repeat (first | refine blk_drewN ?_ _ | refine blk_drew ?_ | refine blk_alloc ?_ _)); exact BK476.out) k_ hk, Kd.freshB (g := gb489) (o := .cells #[.slice Ao18 t479.length co18, .slice Ao21 t482.length co21, .slice Ao22 t485.length co22] 31 (0, 0)) (by (with_reducible repeat (first | refine blk_drewN ?_ _ | refine blk_drew ?_ | refine blk_alloc ?_ _)); exact BK489.out) k_ hk, Kd.freshB (g := gb500) (o := .cells #[.slice Ao26 t490.length co26, .slice Ao30 t493.length co30, .slice Ao31 t496.length co31] 31 (0, 0)) (by (with_reducible repeat (first | refine blk_drewN ?_ _ | refine blk_drew ?_ | refine blk_alloc ?_ _)); exact BK500.out) k_ hk⟩))
             (case aO => exact (by (with_reducible repeat (first | apply Kd.N_alloc | apply Kd.N_drewN | apply Kd.N_drew)); exact HO515.out))
             (case aS => exact (below_size (by repeat (first | (with_reducible first | exact HB.out | apply below_alloc | apply pw_below_drewN | apply below_drew1 | refine below_set ?_ GE476.out | refine below_set ?_ GE489.out | refine below_set ?_ GE500.out) | exact HB.out))))
             (case aL => have := LMc70.out; omega)
             intro v517 w80 ho hb hg hat
             rw [← Ny516.out] at ho
             have n0_ := Aside0.mk (Kd.V_afterv (ok := (fun k_ => some k_ ≠ (v511 : Value).ownBlock ∧ k_ ≠ gb476 ∧ k_ ≠ gb489 ∧ k_ ≠ gb500)) (by (with_reducible repeat (first | apply Kd.V_alloc | apply Kd.V_drewN | apply Kd.V_drew)); exact Kd.V_mono HO_490000.out (fun _ hk => ⟨⟨hk.1.2, ⟨hk.1.1.1, ⟨hk.1.1.2.1, hk.1.1.2.2⟩⟩⟩, hk.2⟩)) hg hat)
             have n1_ := Aside0.mk (Kd.V_afterv (ok := (fun k_ => some k_ ≠ (v511 : Value).ownBlock ∧ k_ ≠ gb476 ∧ k_ ≠ gb489 ∧ k_ ≠ gb500)) (by (with_reducible repeat (first | apply Kd.V_alloc | apply Kd.V_drewN | apply Kd.V_drew)); exact Kd.V_mono HO_490001.out (fun _ hk => ⟨⟨hk.1.2, ⟨hk.1.1.1, ⟨hk.1.1.2.1, hk.1.1.2.2⟩⟩⟩, hk.2⟩)) hg hat)
             have n2_ := Aside0.mk (Kd.V_afterv (ok := (fun k_ => some k_ ≠ (v511 : Value).ownBlock ∧ k_ ≠ gb476 ∧ k_ ≠ gb489 ∧ k_ ≠ gb500)) (by (with_reducible repeat (first | apply Kd.V_alloc | apply Kd.V_drewN | apply Kd.V_drew)); exact Kd.V_mono HO_490002.out (fun _ hk => ⟨⟨hk.1.2, ⟨hk.1.1.1, ⟨hk.1.1.2.1, hk.1.1.2.2⟩⟩⟩, hk.2⟩)) hg hat)
             have n3_ := Aside0.mk (Kd.V_afterv (ok := (fun k_ => some k_ ≠ (v511 : Value).ownBlock ∧ k_ ≠ gb476 ∧ k_ ≠ gb489 ∧ k_ ≠ gb500)) (by (with_reducible repeat (first | apply Kd.V_alloc | apply Kd.V_drewN | apply Kd.V_drew)); exact Kd.V_mono HO_501000.out (fun _ hk => ⟨⟨hk.1.2, ⟨hk.1.1.1, ⟨hk.1.1.2.1, hk.1.1.2.2⟩⟩⟩, hk.2⟩)) hg hat)
             have n4_ := Aside0.mk (Kd.V_afterv (ok := (fun k_ => some k_ ≠ (v511 : Value).ownBlock ∧ k_ ≠ gb476 ∧ k_ ≠ gb489 ∧ k_ ≠ gb500)) (by (with_reducible repeat (first | apply Kd.V_alloc | apply Kd.V_drewN | apply Kd.V_drew)); exact Kd.V_mono HO_501001.out (fun _ hk => ⟨⟨hk.1.2, ⟨hk.1.1.1, ⟨hk.1.1.2.1, hk.1.1.2.2⟩⟩⟩, hk.2⟩)) hg hat)
             have n5_ := Aside0.mk (Kd.V_afterv (ok := (fun k_ => some k_ ≠ (v511 : Value).ownBlock ∧ k_ ≠ gb476 ∧ k_ ≠ gb489 ∧ k_ ≠ gb500)) (by (with_reducible repeat (first | apply Kd.V_alloc | apply Kd.V_drewN | apply Kd.V_drew)); exact Kd.V_mono HO_501002.out (fun _ hk => ⟨⟨hk.1.2, ⟨hk.1.1.1, ⟨hk.1.1.2.1, hk.1.1.2.2⟩⟩⟩, hk.2⟩)) hg hat)
             have n6_ := Aside0.mk (blk_grown (g := gb476) (o := .cells #[.slice A0_0 l0_0.length c0_0, .slice A0_1 l0_1.length c0_1, .int .i64 a0_2, .int .i64 a0_3, .int .i64 a0_4] 25 (0, 0)) (by (with_reducible repeat (first | refine blk_drewN ?_ _ | refine blk_drew ?_ | refine blk_alloc ?_ _)); exact BK476.out) hg (Kd.N_ne HO515.out BK476.out (by decide)))
             have n7_ := Aside0.mk (blk_grown (g := gb489) (o := .cells #[.slice Ao18 t479.length co18, .slice Ao21 t482.length co21, .slice Ao22 t485.length co22] 31 (0, 0)) (by (with_reducible repeat (first | refine blk_drewN ?_ _ | refine blk_drew ?_ | refine blk_alloc ?_ _)); exact BK489.out) hg (Kd.N_ne HO515.out BK489.out (by decide)))
             have n8_ := Aside0.mk (blk_grown (g := gb500) (o := .cells #[.slice Ao26 t490.length co26, .slice Ao30 t493.length co30, .slice Ao31 t496.length co31] 31 (0, 0)) (by (with_reducible repeat (first | refine blk_drewN ?_ _ | refine blk_drew ?_ | refine blk_alloc ?_ _)); exact BK500.out) hg (Kd.N_ne HO515.out BK500.out (by decide)))
             have n9_ := Aside0.mk (Kd.N_afterv (ok := (fun k_ => k_ ≠ gb476 ∧ k_ ≠ gb489 ∧ k_ ≠ gb500)) (by (with_reducible repeat (first | apply Kd.N_alloc | apply Kd.N_drewN | apply Kd.N_drew)); exact HO512.out) hg hat)
             have n10_ := Aside0.mk (hb)
             have n11_ := Aside0.mk (ho)
             clear HO_490000
             clear HO_490001
             clear HO_490002
             clear HO_501000
             clear HO_501001
             clear HO_501002
             clear BK476
             clear BK489
             clear BK500
             clear HO512
             clear HB
             clear HO515
             have HO_490000 := n0_
             have HO_490001 := n1_
             have HO_490002 := n2_
             have HO_501000 := n3_
             have HO_501001 := n4_
             have HO_501002 := n5_
             have BK476 := n6_
             have BK489 := n7_
             have BK500 := n8_
             have HO512 := n9_
             have HB := n10_
             have HO518 := n11_
             clear n0_ n1_ n2_ n3_ n4_ n5_ n6_ n7_ n8_ n9_ n10_ n11_
             clear ho hb hg hat
             refine hK.out _ _ ⟨(blk_cell BK500.out 0).trans rfl, (blk_cell BK500.out 1).trans rfl, (blk_cell BK500.out 2).trans rfl⟩ (fun hHeld => ?_)
             clear hK K
             refine norm_ (a' := ?_) ?_ ?_
             rotate_left
             ·show Act.put _ (some 70) _ = _
              simp only [Act.put, List.setIfInBounds_toArray, List.set_cons_zero, List.set_cons_succ, i64_w, i32_w]
              rfl
             refine one_ (i := 6) (N := some 73) (bs 8 127) rfl rfl (one_of HT_.out (by kernel_rfl)) (by decide) (fun K hK => ?_)
             refine Kd.N_append_rows_step (Kd.slice 5 (Kd.int .u8)) (w0 := w) w.heap.size (by rfl) (.tmp 70) (.tmp 72) 28 42 (.slice none 0 0) 24 rfl Try.underlying28 info42 rfl (by decide) (by omega) v517 y516 t493 _ _ _ (fun k_ => some k_ ≠ (v511 : Value).ownBlock ∧ k_ ≠ gb476 ∧ k_ ≠ gb489 ∧ k_ ≠ gb500) (fun k_ => ((fun k_ => some k_ ≠ (v511 : Value).ownBlock ∧ k_ ≠ gb476 ∧ k_ ≠ gb489 ∧ k_ ≠ gb500)) k_ ∧ some k_ ≠ (v517 : Value).ownBlock) rfl rfl ?aO ?aR (fun _ hk => hk) ?aF ?aB ?aS ?aL ?_
             (case aR => exact (by skip; exact Kd.V_F (Kd.V_mono (ok' := (fun k_ => ((fun k_ => some k_ ≠ (v511 : Value).ownBlock ∧ k_ ≠ gb476 ∧ k_ ≠ gb489 ∧ k_ ≠ gb500)) k_ ∧ some k_ ≠ (v517 : Value).ownBlock)) (HO_501001.out) (fun k_ hk => ⟨⟨hk.1.1, ⟨hk.1.2.1, ⟨hk.1.2.2.1, hk.1.2.2.2⟩⟩⟩, hk.2⟩))))
             (case aB => exact (by repeat (first | (with_reducible first | exact HB.out | apply below_alloc | apply pw_below_drewN | apply below_drew1 | refine below_set ?_ GE476.out | refine below_set ?_ GE489.out | refine below_set ?_ GE500.out) | exact HB.out)))
             (case aF => exact (fun k_ hk => ⟨Kd.fresh' (Kd.N_lt (by (with_reducible repeat (first | apply Kd.N_alloc | apply Kd.N_drewN | apply Kd.N_drew)); exact HO512.out)) k_ hk, Kd.freshB (g := gb476) (o := .cells #[.slice A0_0 l0_0.length c0_0, .slice A0_1 l0_1.length c0_1, .int .i64 a0_2, .int .i64 a0_3, .int .i64 a0_4] 25 (0, 0)) (by (with_reducible repeat (first | refine blk_drewN ?_ _ | refine blk_drew ?_ | refine blk_alloc ?_ _)); exact BK476.out) k_ hk, Kd.freshB (g := gb489) (o := .cells #[.slice Ao18 t479.length co18, .slice Ao21 t482.length co21, .slice Ao22 t485.length co22] 31 (0, 0)) (by (with_reducible repeat (first | refine blk_drewN ?_ _ | refine blk_drew ?_ | refine blk_alloc ?_ _)); exact BK489.out) k_ hk, Kd.freshB (g := gb500) (o := .cells #[.slice Ao26 t490.length co26, .slice Ao30 t493.length co30, .slice Ao31 t496.length co31] 31 (0, 0)) (by (with_reducible repeat (first | refine blk_drewN ?_ _ | refine blk_drew ?_ | refine blk_alloc ?_ _)); exact BK500.out) k_ hk⟩))
             (case aO => exact (by (with_reducible repeat (first | apply Kd.N_alloc | apply Kd.N_drewN | apply Kd.N_drew)); exact HO518.out))
             (case aS => exact (below_size (by repeat (first | (with_reducible first | exact HB.out | apply below_alloc | apply pw_below_drewN | apply below_drew1 | refine below_set ?_ GE476.out | refine below_set ?_ GE489.out | refine below_set ?_ GE500.out) | exact HB.out))))
             (case aL => have := LMc71.out; omega)
             intro v520 w81 ho hb hg hat
             rw [← Ny519.out] at ho
             have n0_ := Aside0.mk (Kd.V_afterv (ok := (fun k_ => some k_ ≠ (v511 : Value).ownBlock ∧ k_ ≠ gb476 ∧ k_ ≠ gb489 ∧ k_ ≠ gb500)) (by (with_reducible repeat (first | apply Kd.V_alloc | apply Kd.V_drewN | apply Kd.V_drew)); exact HO_490000.out) hg hat)
             have n1_ := Aside0.mk (Kd.V_afterv (ok := (fun k_ => some k_ ≠ (v511 : Value).ownBlock ∧ k_ ≠ gb476 ∧ k_ ≠ gb489 ∧ k_ ≠ gb500)) (by (with_reducible repeat (first | apply Kd.V_alloc | apply Kd.V_drewN | apply Kd.V_drew)); exact HO_490001.out) hg hat)
             have n2_ := Aside0.mk (Kd.V_afterv (ok := (fun k_ => some k_ ≠ (v511 : Value).ownBlock ∧ k_ ≠ gb476 ∧ k_ ≠ gb489 ∧ k_ ≠ gb500)) (by (with_reducible repeat (first | apply Kd.V_alloc | apply Kd.V_drewN | apply Kd.V_drew)); exact HO_490002.out) hg hat)
             have n3_ := Aside0.mk (Kd.V_afterv (ok := (fun k_ => some k_ ≠ (v511 : Value).ownBlock ∧ k_ ≠ gb476 ∧ k_ ≠ gb489 ∧ k_ ≠ gb500)) (by (with_reducible repeat (first | apply Kd.V_alloc | apply Kd.V_drewN | apply Kd.V_drew)); exact HO_501000.out) hg hat)
             have n4_ := Aside0.mk (Kd.V_afterv (ok := (fun k_ => some k_ ≠ (v511 : Value).ownBlock ∧ k_ ≠ gb476 ∧ k_ ≠ gb489 ∧ k_ ≠ gb500)) (by (with_reducible repeat (first | apply Kd.V_alloc | apply Kd.V_drewN | apply Kd.V_drew)); exact HO_501001.out) hg hat)
             have n5_ := Aside0.mk (Kd.V_afterv (ok := (fun k_ => some k_ ≠ (v511 : Value).ownBlock ∧ k_ ≠ gb476 ∧ k_ ≠ gb489 ∧ k_ ≠ gb500)) (by (with_reducible repeat (first | apply Kd.V_alloc | apply Kd.V_drewN | apply Kd.V_drew)); exact HO_501002.out) hg hat)
             have n6_ := Aside0.mk (blk_grown (g := gb476) (o := .cells #[.slice A0_0 l0_0.length c0_0, .slice A0_1 l0_1.length c0_1, .int .i64 a0_2, .int .i64 a0_3, .int .i64 a0_4] 25 (0, 0)) (by (with_reducible repeat (first | refine blk_drewN ?_ _ | refine blk_drew ?_ | refine blk_alloc ?_ _)); exact BK476.out) hg (Kd.N_ne HO518.out BK476.out (by decide)))
             have n7_ := Aside0.mk (blk_grown (g := gb489) (o := .cells #[.slice Ao18 t479.length co18, .slice Ao21 t482.length co21, .slice Ao22 t485.length co22] 31 (0, 0)) (by (with_reducible repeat (first | refine blk_drewN ?_ _ | refine blk_drew ?_ | refine blk_alloc ?_ _)); exact BK489.out) hg (Kd.N_ne HO518.out BK489.out (by decide)))
             have n8_ := Aside0.mk (blk_grown (g := gb500) (o := .cells #[.slice Ao26 t490.length co26, .slice Ao30 t493.length co30, .slice Ao31 t496.length co31] 31 (0, 0)) (by (with_reducible repeat (first | refine blk_drewN ?_ _ | refine blk_drew ?_ | refine blk_alloc ?_ _)); exact BK500.out) hg (Kd.N_ne HO518.out BK500.out (by decide)))
             have n9_ := Aside0.mk (Kd.N_afterv (ok := (fun k_ => k_ ≠ gb476 ∧ k_ ≠ gb489 ∧ k_ ≠ gb500)) (by (with_reducible repeat (first | apply Kd.N_alloc | apply Kd.N_drewN | apply Kd.N_drew)); exact HO512.out) hg hat)
             have n10_ := Aside0.mk (hb)
             have n11_ := Aside0.mk (ho)
             clear HO_490000
             clear HO_490001
             clear HO_490002
             clear HO_501000
             clear HO_501001
             clear HO_501002
             clear BK476
             clear BK489
             clear BK500
             clear HO512
             clear HB
             clear HO518
             have HO_490000 := n0_
             have HO_490001 := n1_
             have HO_490002 := n2_
             have HO_501000 := n3_
             have HO_501001 := n4_
             have HO_501002 := n5_
             have BK476 := n6_
             have BK489 := n7_
             have BK500 := n8_
             have HO512 := n9_
             have HB := n10_
             have HO521 := n11_
             clear n0_ n1_ n2_ n3_ n4_ n5_ n6_ n7_ n8_ n9_ n10_ n11_
             clear ho hb hg hat
             refine hK.out _ _ ⟨(blk_cell BK500.out 0).trans rfl, (blk_cell BK500.out 1).trans rfl, (blk_cell BK500.out 2).trans rfl⟩ (fun hHeld => ?_)
             clear hK K
             refine norm_ (a' := ?_) ?_ ?_
             rotate_left
             ·show Act.put _ (some 73) _ = _
              simp only [Act.put, List.setIfInBounds_toArray, List.set_cons_zero, List.set_cons_succ, i64_w, i32_w]
              rfl
             refine pq_ 7 (some 12) (bs 8 255) rfl rfl (any_of HT_.out (by kernel_rfl)) ?_
             refine done_ (done_of HT_.out (by kernel_rfl)) ?_
             try go_wp2
             go_loopg [13] kj33 (fun kq v13 w' => ∃ (x13_3 : Int), v13 = .int .i64 x13_3 ∧ Aside0 (crossroadslaw17_ClassApart.l0 kq a1 a2 y510 y519 x13_3 t479 t482 t485 t490 t493 t496 = some r) ∧ Aside0 (kq ≤ kj33) ∧ Aside0 (Kd.N (Kd.slice 5 (Kd.int .u8)) 42 w' w.heap.size (fun k_ => some k_ ≠ (v520 : Value).ownBlock ∧ k_ ≠ gb476 ∧ k_ ≠ gb489 ∧ k_ ≠ gb500) v511 y510) ∧ Aside0 (Kd.N (Kd.slice 5 (Kd.int .u8)) 42 w' w.heap.size (fun k_ => some k_ ≠ (v511 : Value).ownBlock ∧ k_ ≠ gb476 ∧ k_ ≠ gb489 ∧ k_ ≠ gb500) v520 y519) ∧ Aside0 (Kd.V (Kd.slice 5 (Kd.int .u8)) 42 w' w.heap.size (fun k_ => some k_ ≠ (v511 : Value).ownBlock ∧ some k_ ≠ (v520 : Value).ownBlock ∧ k_ ≠ gb476 ∧ k_ ≠ gb489 ∧ k_ ≠ gb500) (.slice Ao18 t479.length co18) t479) ∧ Aside0 (Kd.V (Kd.slice 5 (Kd.int .u8)) 42 w' w.heap.size (fun k_ => some k_ ≠ (v511 : Value).ownBlock ∧ some k_ ≠ (v520 : Value).ownBlock ∧ k_ ≠ gb476 ∧ k_ ≠ gb489 ∧ k_ ≠ gb500) (.slice Ao21 t482.length co21) t482) ∧ Aside0 (Kd.V Kd.bool 4 w' w.heap.size (fun k_ => some k_ ≠ (v511 : Value).ownBlock ∧ some k_ ≠ (v520 : Value).ownBlock ∧ k_ ≠ gb476 ∧ k_ ≠ gb489 ∧ k_ ≠ gb500) (.slice Ao22 t485.length co22) t485) ∧ Aside0 (Kd.V (Kd.slice 5 (Kd.int .u8)) 42 w' w.heap.size (fun k_ => some k_ ≠ (v511 : Value).ownBlock ∧ some k_ ≠ (v520 : Value).ownBlock ∧ k_ ≠ gb476 ∧ k_ ≠ gb489 ∧ k_ ≠ gb500) (.slice Ao26 t490.length co26) t490) ∧ Aside0 (Kd.V (Kd.slice 5 (Kd.int .u8)) 42 w' w.heap.size (fun k_ => some k_ ≠ (v511 : Value).ownBlock ∧ some k_ ≠ (v520 : Value).ownBlock ∧ k_ ≠ gb476 ∧ k_ ≠ gb489 ∧ k_ ≠ gb500) (.slice Ao30 t493.length co30) t493) ∧ Aside0 (Kd.V Kd.bool 4 w' w.heap.size (fun k_ => some k_ ≠ (v511 : Value).ownBlock ∧ some k_ ≠ (v520 : Value).ownBlock ∧ k_ ≠ gb476 ∧ k_ ≠ gb489 ∧ k_ ≠ gb500) (.slice Ao31 t496.length co31) t496) ∧ Aside0 (w'.heap[gb476]? = some (.cells #[(.slice A0_0 l0_0.length c0_0), (.slice A0_1 l0_1.length c0_1), .int .i64 a0_2, .int .i64 a0_3, .int .i64 a0_4] 25 (0, 0))) ∧ Aside0 (w'.heap[gb489]? = some (.cells #[(.slice Ao18 t479.length co18), (.slice Ao21 t482.length co21), (.slice Ao22 t485.length co22)] 31 (0, 0))) ∧ Aside0 (w'.heap[gb500]? = some (.cells #[(.slice Ao26 t490.length co26), (.slice Ao30 t493.length co30), (.slice Ao31 t496.length co31)] 31 (0, 0))) ∧ Aside0 (Below w.heap.size w w'))
             case atStart => exact ⟨(0), (by first | rfl | (simp; done) | (simp [*]; done)), H', ⟨Nat.le_refl _⟩, ⟨by (with_reducible repeat (first | apply Kd.N_alloc | apply Kd.N_drewN | apply Kd.N_drew)); exact Kd.N_mono HO512.out (fun _ hk => ⟨hk.2, ⟨hk.1.1, ⟨hk.1.2.1, hk.1.2.2⟩⟩⟩)⟩, ⟨by (with_reducible repeat (first | apply Kd.N_alloc | apply Kd.N_drewN | apply Kd.N_drew)); exact HO521.out⟩, ⟨by (with_reducible repeat (first | apply Kd.V_alloc | apply Kd.V_drewN | apply Kd.V_drew)); exact Kd.V_mono HO_490000.out (fun _ hk => ⟨hk.1.1, ⟨hk.2, ⟨hk.1.2.1, ⟨hk.1.2.2.1, hk.1.2.2.2⟩⟩⟩⟩)⟩, ⟨by (with_reducible repeat (first | apply Kd.V_alloc | apply Kd.V_drewN | apply Kd.V_drew)); exact Kd.V_mono HO_490001.out (fun _ hk => ⟨hk.1.1, ⟨hk.2, ⟨hk.1.2.1, ⟨hk.1.2.2.1, hk.1.2.2.2⟩⟩⟩⟩)⟩, ⟨by (with_reducible repeat (first | apply Kd.V_alloc | apply Kd.V_drewN | apply Kd.V_drew)); exact Kd.V_mono HO_490002.out (fun _ hk => ⟨hk.1.1, ⟨hk.2, ⟨hk.1.2.1, ⟨hk.1.2.2.1, hk.1.2.2.2⟩⟩⟩⟩)⟩, ⟨by (with_reducible repeat (first | apply Kd.V_alloc | apply Kd.V_drewN | apply Kd.V_drew)); exact Kd.V_mono HO_501000.out (fun _ hk => ⟨hk.1.1, ⟨hk.2, ⟨hk.1.2.1, ⟨hk.1.2.2.1, hk.1.2.2.2⟩⟩⟩⟩)⟩, ⟨by (with_reducible repeat (first | apply Kd.V_alloc | apply Kd.V_drewN | apply Kd.V_drew)); exact Kd.V_mono HO_501001.out (fun _ hk => ⟨hk.1.1, ⟨hk.2, ⟨hk.1.2.1, ⟨hk.1.2.2.1, hk.1.2.2.2⟩⟩⟩⟩)⟩, ⟨by (with_reducible repeat (first | apply Kd.V_alloc | apply Kd.V_drewN | apply Kd.V_drew)); exact Kd.V_mono HO_501002.out (fun _ hk => ⟨hk.1.1, ⟨hk.2, ⟨hk.1.2.1, ⟨hk.1.2.2.1, hk.1.2.2.2⟩⟩⟩⟩)⟩, ⟨by (with_reducible repeat (first | refine blk_drewN ?_ _ | refine blk_drew ?_ | refine blk_alloc ?_ _)); exact BK476.out⟩, ⟨by (with_reducible repeat (first | refine blk_drewN ?_ _ | refine blk_drew ?_ | refine blk_alloc ?_ _)); exact BK489.out⟩, ⟨by (with_reducible repeat (first | refine blk_drewN ?_ _ | refine blk_drew ?_ | refine blk_alloc ?_ _)); exact BK500.out⟩, ⟨by repeat (first | (with_reducible first | exact HB.out | apply below_alloc | apply pw_below_drewN | apply below_drew1 | refine below_set ?_ GE476.out | refine below_set ?_ GE489.out | refine below_set ?_ GE500.out) | exact HB.out)⟩⟩
             case round =>
              clear H'
              try clear p2
              try clear c6
              try clear p6
              try clear c7
              try clear c67
              try clear c68
              try clear c69
              try clear c70
              try clear c71
              try clear hcz65_1
              try clear hcz65_2
              try clear hfz13_0
              try clear hfz13_1
              try clear hfz13_2
              try clear hfz13_3
              try clear hfz13_4
              try clear hfz15_0
              try clear hfz15_1
              try clear hfz15_2
              try clear hfz15_3
              try clear hfz15_4
              try clear hfz20_0
              try clear hfz20_1
              try clear hfz20_2
              try clear hfz23_0
              try clear hfz23_1
              try clear hfz23_2
              try clear hfz23_3
              try clear hfz23_4
              try clear hfz29_0
              try clear hfz29_1
              try clear hfz29_2
              try clear hfz42_0
              try clear hfz42_1
              try clear hfz42_2
              try clear hfz42_3
              try clear hfz42_4
              try clear hfz44_0
              try clear hfz44_1
              try clear hfz44_2
              try clear hfz46_0
              try clear hfz46_1
              try clear hfz46_2
              try clear hfz46_3
              try clear hfz46_4
              try clear hfz47_0
              try clear hfz47_1
              try clear hfz47_2
              try clear hfz49_0
              try clear hfz49_1
              try clear hfz49_2
              try clear hfz50_0
              try clear hfz50_1
              try clear hfz50_2
              try clear hfz54_0
              try clear hfz54_1
              try clear hfz54_2
              try clear hfz54_3
              try clear hfz54_4
              try clear hfz56_0
              try clear hfz56_1
              try clear hfz56_2
              try clear hfz58_0
              try clear hfz58_1
              try clear hfz58_2
              try clear hfz58_3
              try clear hfz58_4
              try clear hfz59_0
              try clear hfz59_1
              try clear hfz59_2
              try clear hfz63_0
              try clear hfz63_1
              try clear hfz63_2
              try clear hfz63_3
              try clear hfz63_4
              try clear hfz65_0
              try clear hfz65_1
              try clear hfz65_2
              try clear p2
              try clear p6
              obtain ⟨x13_3, rfl, HA, HK3, HO_11, HO_12, HO_490000, HO_490001, HO_490002, HO_501000, HO_501001, HO_501002, BK476, BK489, BK500, HB⟩ := hrel
              cases gk with
              | zero => exact absurd HA.out (by simp [crossroadslaw17_ClassApart.l0])
              | succ k3 =>
               have H := HA.out
               clear HA
               simp only [crossroadslaw17_ClassApart.l0] at H
               by_cases c82 : x13_3 < (y510.length : Int)
               ·rw [if_pos c82] at H
                have c82b0 : decide (x13_3 < (y510.length : Int)) = true := decide_eq_true c82
                clear c82
                by_cases c83 : 0 ≤ x13_3
                ·rw [if_pos c83] at H
                 have c83b0 : decide (0 ≤ x13_3) = true := decide_eq_true c83
                 clear c83
                 by_cases c84 : x13_3 < (y519.length : Int)
                 ·rw [if_pos c84] at H
                  have c84b0 : decide (x13_3 < (y519.length : Int)) = true := decide_eq_true c84
                  clear c84
                  by_cases c85 : (strOfNums (rd_L7 y510 x13_3)).toList = (strOfNums (rd_L7 y519 x13_3)).toList
                  ·rw [if_pos c85] at H
                   have c85b0 : ((strOfNums (rd_L7 y510 x13_3)).toList == (strOfNums (rd_L7 y519 x13_3)).toList) = true := beq_iff_eq.mpr c85
                   have c85b1 : ((strOfNums (rd_L7 y510 x13_3)).toList != (strOfNums (rd_L7 y519 x13_3)).toList) = false := bne_eq_false_iff_eq.mpr c85
                   clear c85
                   have H' := Aside0.mk H
                   clear H
                   obtain ⟨Ao86, co86, eo86⟩ := Kd.N_slice HO_11.out
                   subst eo86
                   try go_wp2
                   have n0_ := Aside0.mk (Kd.N_drew HO_11.out)
                   have n1_ := Aside0.mk (Kd.N_drew HO_12.out)
                   have n2_ := Aside0.mk (Kd.V_drew HO_490000.out)
                   have n3_ := Aside0.mk (Kd.V_drew HO_490001.out)
                   have n4_ := Aside0.mk (Kd.V_drew HO_490002.out)
                   have n5_ := Aside0.mk (Kd.V_drew HO_501000.out)
                   have n6_ := Aside0.mk (Kd.V_drew HO_501001.out)
                   have n7_ := Aside0.mk (Kd.V_drew HO_501002.out)
                   have n8_ := Aside0.mk (blk_drew BK476.out)
                   have n9_ := Aside0.mk (blk_drew BK489.out)
                   have n10_ := Aside0.mk (blk_drew BK500.out)
                   have n11_ := Aside0.mk (below_drew1 HB.out)
                   clear HO_11
                   clear HO_12
                   clear HO_490000
                   clear HO_490001
                   clear HO_490002
                   clear HO_501000
                   clear HO_501001
                   clear HO_501002
                   clear BK476
                   clear BK489
                   clear BK500
                   clear HB
                   have HO_11 := n0_
                   have HO_12 := n1_
                   have HO_490000 := n2_
                   have HO_490001 := n3_
                   have HO_490002 := n4_
                   have HO_501000 := n5_
                   have HO_501001 := n6_
                   have HO_501002 := n7_
                   have BK476 := n8_
                   have BK489 := n9_
                   have BK500 := n10_
                   have HB := n11_
                   clear n0_ n1_ n2_ n3_ n4_ n5_ n6_ n7_ n8_ n9_ n10_ n11_
                   have p522 : 0 ≤ (x13_3 : Int) := of_decide_eq_true (by first | (with_reducible assumption) | assumption)
                   have q522 : x13_3 < (y510.length : Int) := of_decide_eq_true (by first | (with_reducible assumption) | assumption)
                   obtain ⟨ad522, A522_0, c522_0, e522, hx522_0, hl522_0, hi522_0⟩ := at_L7 (Kd.N_reads' HO_11.out).2.2 x13_3 p522 q522
                   cases e522
                   obtain ⟨ce522, hce522, hMe522, hcc522⟩ := Kd.N_get HO_11.out [] x13_3 p522 (by first | exact q522 | exact of_decide_eq_true (by first | (with_reducible assumption) | assumption) | (have e_ := (Kd.N_reads' HO_11.out).1; omega))
                   obtain ⟨ua522_0, uc522_0, rfl, ul522_0, ge522_0⟩ := Kd.FK_slice_open hMe522
                   have hv522_0 := hcc522 0 _ rfl
                   rw [Nat.add_zero, show ((Kd.slice 5 (Kd.int .u8))).sz = 1 from rfl, Nat.mul_one] at hv522_0
                   replace hv522_0 := Option.some.inj (hv522_0.symm.trans hx522_0)
                   injection hv522_0 with hva_ hvn_ hvc_
                   rw [hva_] at ge522_0
                   rw [hvc_] at ul522_0
                   have HL522_0 := Aside0.mk (show Kd.V (Kd.int .u8) 5 _ w.heap.size _ _ (rd_L7 y510 x13_3) from Kd.V_mk ul522_0 ge522_0)
                   clear hva_ hvn_ hvc_ ge522_0 ul522_0
                   clear hcc522 hce522
                   have HR522_0 := Aside0.mk hi522_0
                   have HC522_0 := Aside0.mk hl522_0
                   clear hi522_0 hl522_0
                   replace p522 := eq_true p522
                   replace q522 := eq_true q522
                   obtain ⟨Ao88, co88, eo88⟩ := Kd.N_slice HO_12.out
                   (first | subst eo88 | (injection eo88 with f1_ f2_ f3_; have f4_ := f1_.symm; have f5_ := f3_.symm; clear f1_ f2_ f3_; subst f4_; subst f5_))
                   have p523 : 0 ≤ (x13_3 : Int) := of_decide_eq_true (by first | (with_reducible assumption) | assumption)
                   have q523 : x13_3 < (y519.length : Int) := of_decide_eq_true (by first | (with_reducible assumption) | assumption)
                   obtain ⟨ad523, A523_0, c523_0, e523, hx523_0, hl523_0, hi523_0⟩ := at_L7 (Kd.N_reads' HO_12.out).2.2 x13_3 p523 q523
                   cases e523
                   obtain ⟨ce523, hce523, hMe523, hcc523⟩ := Kd.N_get HO_12.out [] x13_3 p523 (by first | exact q523 | exact of_decide_eq_true (by first | (with_reducible assumption) | assumption) | (have e_ := (Kd.N_reads' HO_12.out).1; omega))
                   obtain ⟨ua523_0, uc523_0, rfl, ul523_0, ge523_0⟩ := Kd.FK_slice_open hMe523
                   have hv523_0 := hcc523 0 _ rfl
                   rw [Nat.add_zero, show ((Kd.slice 5 (Kd.int .u8))).sz = 1 from rfl, Nat.mul_one] at hv523_0
                   replace hv523_0 := Option.some.inj (hv523_0.symm.trans hx523_0)
                   injection hv523_0 with hva_ hvn_ hvc_
                   rw [hva_] at ge523_0
                   rw [hvc_] at ul523_0
                   have HL523_0 := Aside0.mk (show Kd.V (Kd.int .u8) 5 _ w.heap.size _ _ (rd_L7 y519 x13_3) from Kd.V_mk ul523_0 ge523_0)
                   clear hva_ hvn_ hvc_ ge523_0 ul523_0
                   clear hcc523 hce523
                   have HR523_0 := Aside0.mk hi523_0
                   have HC523_0 := Aside0.mk hl523_0
                   clear hi523_0 hl523_0
                   replace p523 := eq_true p523
                   replace q523 := eq_true q523
                   have hcv89 := Kd.C_string (P := Try.prog) (A := A522_0) (c := c522_0) Try.underlying42 Try.underlying5 Try.underlying9 (by repeat (first | (with_reducible exact HR522_0.out) | (with_reducible refine Kd.C_alloc ?_ _) | (with_reducible refine Kd.C_drewN ?_ _) | (with_reducible refine Kd.C_drew ?_) | exact HR522_0.out))
                   have hcv90 := Kd.C_string (P := Try.prog) (A := A523_0) (c := c523_0) Try.underlying42 Try.underlying5 Try.underlying9 (by repeat (first | (with_reducible exact HR523_0.out) | (with_reducible refine Kd.C_alloc ?_ _) | (with_reducible refine Kd.C_drewN ?_ _) | (with_reducible refine Kd.C_drew ?_) | exact HR523_0.out))
                   refine start_ (n := 11) (S := fun w' => w'.cell? (ad522.add (x13_3).toNat) = some (.slice A522_0 (rd_L7 y510 x13_3).length c522_0) ∧ w'.cell? (ad523.add (x13_3).toNat) = some (.slice A523_0 (rd_L7 y519 x13_3).length c523_0) ∧ (convert 42 9 (.slice A522_0 (rd_L7 y510 x13_3).length c522_0)).run Try.prog w' = .ok (.string (strOfNums (rd_L7 y510 x13_3))) w' ∧ (convert 42 9 (.slice A523_0 (rd_L7 y519 x13_3).length c523_0)).run Try.prog w' = .ok (.string (strOfNums (rd_L7 y519 x13_3))) w') (ds := []) (bs 11 0) (by kernel_rfl) rfl rfl ⟨hx522_0, hx523_0, (Kd.C_string (P := Try.prog) (A := A522_0) (c := c522_0) Try.underlying42 Try.underlying5 Try.underlying9 (Kd.C_drew (by repeat (first | (with_reducible exact HR522_0.out) | (with_reducible refine Kd.C_alloc ?_ _) | (with_reducible refine Kd.C_drewN ?_ _) | (with_reducible refine Kd.C_drew ?_) | exact HR522_0.out)))), (Kd.C_string (P := Try.prog) (A := A523_0) (c := c523_0) Try.underlying42 Try.underlying5 Try.underlying9 (Kd.C_drew (by repeat (first | (with_reducible exact HR523_0.out) | (with_reducible refine Kd.C_alloc ?_ _) | (with_reducible refine Kd.C_drewN ?_ _) | (with_reducible refine Kd.C_drew ?_) | exact HR523_0.out))))⟩ (fun hHeld => ?_); refine with_tabW crossroadslaw17_ClassApart.tab16 crossroadslaw17_ClassApart.bits16 (fun HT_ HW_ => ?_)
                   generalize wr.drew = w87 at HO_11 HO_12 HO_490000 HO_490001 HO_490002 HO_501000 HO_501001 HO_501002 BK476 BK489 BK500 HB HL522_0 HL523_0 HR522_0 HR523_0 hx522_0 hx523_0 hHeld ⊢
                   refine pq_ 0 (some 80) (bs 11 1) rfl rfl (any_of HT_.out (by kernel_rfl)) ?_
                   refine pq_ 1 (some 81) (bs 11 3) rfl rfl (any_of HT_.out (by kernel_rfl)) ?_
                   refine pq_ 2 (some 82) (bs 11 7) rfl rfl (any_of HT_.out (by kernel_rfl)) ?_
                   refine pq_ 5 (some 85) (bs 11 39) rfl rfl (any_of HT_.out (by kernel_rfl)) ?_
                   refine pq_ 6 (some 86) (bs 11 103) rfl rfl (any_of HT_.out (by kernel_rfl)) ?_
                   refine pq_ 7 (some 87) (bs 11 231) rfl rfl (any_of HT_.out (by kernel_rfl)) ?_
                   refine tq_ 3 (some 83) (bs 11 239) rfl rfl (take_ofW HT_.out HW_.out (by kernel_rfl)) hHeld (Or.inl ⟨by rfl, by rintro w' ⟨s0, s1, s2, s3⟩; go_simp; with_reducible rfl⟩) ?_
                   refine tq_ 4 (some 84) (bs 11 255) rfl rfl (take_ofW HT_.out HW_.out (by kernel_rfl)) hHeld (Or.inl ⟨by rfl, by rintro w' ⟨s0, s1, s2, s3⟩; go_simp; with_reducible rfl⟩) ?_
                   refine tq_ 8 (some 88) (bs 11 511) rfl rfl (take_ofW HT_.out HW_.out (by kernel_rfl)) hHeld (Or.inl ⟨by rfl, by rintro w' ⟨s0, s1, s2, s3⟩; go_simp; with_reducible rfl⟩) ?_
                   refine tq_ 9 (some 89) (bs 11 1023) rfl rfl (take_ofW HT_.out HW_.out (by kernel_rfl)) hHeld (Or.inl ⟨by rfl, by rintro w' ⟨s0, s1, s2, s3⟩; go_simp; with_reducible rfl⟩) ?_
                   refine pq_ 10 (some 90) (bs 11 2047) rfl rfl (any_of HT_.out (by kernel_rfl)) ?_
                   refine done_ (done_of HT_.out (by kernel_rfl)) ?_
                   try go_wp2
                   go_roundg k3
                   case measure => have := HJ9.out; have := HJ33.out; have := HK3.out; omega
                   case rel => exact ⟨(wrap64 (x13_3 + 1)), (by first | rfl | (simp; done) | (simp [*]; done)), H', ⟨by have := HJ9.out; have := HJ33.out; have := HK3.out; omega⟩, ⟨by (with_reducible repeat (first | apply Kd.N_alloc | apply Kd.N_drewN | apply Kd.N_drew)); exact HO_11.out⟩, ⟨by (with_reducible repeat (first | apply Kd.N_alloc | apply Kd.N_drewN | apply Kd.N_drew)); exact HO_12.out⟩, ⟨by (with_reducible repeat (first | apply Kd.V_alloc | apply Kd.V_drewN | apply Kd.V_drew)); exact HO_490000.out⟩, ⟨by (with_reducible repeat (first | apply Kd.V_alloc | apply Kd.V_drewN | apply Kd.V_drew)); exact HO_490001.out⟩, ⟨by (with_reducible repeat (first | apply Kd.V_alloc | apply Kd.V_drewN | apply Kd.V_drew)); exact HO_490002.out⟩, ⟨by (with_reducible repeat (first | apply Kd.V_alloc | apply Kd.V_drewN | apply Kd.V_drew)); exact HO_501000.out⟩, ⟨by (with_reducible repeat (first | apply Kd.V_alloc | apply Kd.V_drewN | apply Kd.V_drew)); exact HO_501001.out⟩, ⟨by (with_reducible repeat (first | apply Kd.V_alloc | apply Kd.V_drewN | apply Kd.V_drew)); exact HO_501002.out⟩, ⟨by (with_reducible repeat (first | refine blk_drewN ?_ _ | refine blk_drew ?_ | refine blk_alloc ?_ _)); exact BK476.out⟩, ⟨by (with_reducible repeat (first | refine blk_drewN ?_ _ | refine blk_drew ?_ | refine blk_alloc ?_ _)); exact BK489.out⟩, ⟨by (with_reducible repeat (first | refine blk_drewN ?_ _ | refine blk_drew ?_ | refine blk_alloc ?_ _)); exact BK500.out⟩, ⟨by repeat (first | (with_reducible first | exact HB.out | apply below_alloc | apply pw_below_drewN | apply below_drew1 | refine below_set ?_ GE476.out | refine below_set ?_ GE489.out | refine below_set ?_ GE500.out) | exact HB.out)⟩⟩
                  ·rw [if_neg c85] at H
                   have c85b0 : ((strOfNums (rd_L7 y510 x13_3)).toList == (strOfNums (rd_L7 y519 x13_3)).toList) = false := beq_eq_false_iff_ne.mpr c85
                   have c85b1 : ((strOfNums (rd_L7 y510 x13_3)).toList != (strOfNums (rd_L7 y519 x13_3)).toList) = true := bne_iff_ne.mpr c85
                   by_cases c92 : ((rd_L7 y510 x13_3).length : Int) < ((rd_L7 y519 x13_3).length : Int)
                   ·rw [if_pos c92] at H
                    have c92b0 : decide (((rd_L7 y510 x13_3).length : Int) < ((rd_L7 y519 x13_3).length : Int)) = true := decide_eq_true c92
                    have c92b1 : decide ((rd_L7 y510 x13_3).length < (rd_L7 y519 x13_3).length) = true := decide_eq_true (Int.ofNat_lt.mp c92)
                    clear c92
                    obtain rfl := Option.some.inj H
                    obtain ⟨Ao93, co93, eo93⟩ := Kd.N_slice HO_11.out
                    subst eo93
                    try go_wp2
                    have n0_ := Aside0.mk (Kd.N_drew HO_11.out)
                    have n1_ := Aside0.mk (Kd.N_drew HO_12.out)
                    have n2_ := Aside0.mk (Kd.V_drew HO_490000.out)
                    have n3_ := Aside0.mk (Kd.V_drew HO_490001.out)
                    have n4_ := Aside0.mk (Kd.V_drew HO_490002.out)
                    have n5_ := Aside0.mk (Kd.V_drew HO_501000.out)
                    have n6_ := Aside0.mk (Kd.V_drew HO_501001.out)
                    have n7_ := Aside0.mk (Kd.V_drew HO_501002.out)
                    have n8_ := Aside0.mk (blk_drew BK476.out)
                    have n9_ := Aside0.mk (blk_drew BK489.out)
                    have n10_ := Aside0.mk (blk_drew BK500.out)
                    have n11_ := Aside0.mk (below_drew1 HB.out)
                    clear HO_11
                    clear HO_12
                    clear HO_490000
                    clear HO_490001
                    clear HO_490002
                    clear HO_501000
                    clear HO_501001
                    clear HO_501002
                    clear BK476
                    clear BK489
                    clear BK500
                    clear HB
                    have HO_11 := n0_
                    have HO_12 := n1_
                    have HO_490000 := n2_
                    have HO_490001 := n3_
                    have HO_490002 := n4_
                    have HO_501000 := n5_
                    have HO_501001 := n6_
                    have HO_501002 := n7_
                    have BK476 := n8_
                    have BK489 := n9_
                    have BK500 := n10_
                    have HB := n11_
                    clear n0_ n1_ n2_ n3_ n4_ n5_ n6_ n7_ n8_ n9_ n10_ n11_
                    have p522 : 0 ≤ (x13_3 : Int) := of_decide_eq_true (by first | (with_reducible assumption) | assumption)
                    have q522 : x13_3 < (y510.length : Int) := of_decide_eq_true (by first | (with_reducible assumption) | assumption)
                    obtain ⟨ad522, A522_0, c522_0, e522, hx522_0, hl522_0, hi522_0⟩ := at_L7 (Kd.N_reads' HO_11.out).2.2 x13_3 p522 q522
                    cases e522
                    obtain ⟨ce522, hce522, hMe522, hcc522⟩ := Kd.N_get HO_11.out [] x13_3 p522 (by first | exact q522 | exact of_decide_eq_true (by first | (with_reducible assumption) | assumption) | (have e_ := (Kd.N_reads' HO_11.out).1; omega))
                    obtain ⟨ua522_0, uc522_0, rfl, ul522_0, ge522_0⟩ := Kd.FK_slice_open hMe522
                    have hv522_0 := hcc522 0 _ rfl
                    rw [Nat.add_zero, show ((Kd.slice 5 (Kd.int .u8))).sz = 1 from rfl, Nat.mul_one] at hv522_0
                    replace hv522_0 := Option.some.inj (hv522_0.symm.trans hx522_0)
                    injection hv522_0 with hva_ hvn_ hvc_
                    rw [hva_] at ge522_0
                    rw [hvc_] at ul522_0
                    have HL522_0 := Aside0.mk (show Kd.V (Kd.int .u8) 5 _ w.heap.size _ _ (rd_L7 y510 x13_3) from Kd.V_mk ul522_0 ge522_0)
                    clear hva_ hvn_ hvc_ ge522_0 ul522_0
                    clear hcc522 hce522
                    have HR522_0 := Aside0.mk hi522_0
                    have HC522_0 := Aside0.mk hl522_0
                    clear hi522_0 hl522_0
                    replace p522 := eq_true p522
                    replace q522 := eq_true q522
                    obtain ⟨Ao95, co95, eo95⟩ := Kd.N_slice HO_12.out
                    (first | subst eo95 | (injection eo95 with f1_ f2_ f3_; have f4_ := f1_.symm; have f5_ := f3_.symm; clear f1_ f2_ f3_; subst f4_; subst f5_))
                    have p523 : 0 ≤ (x13_3 : Int) := of_decide_eq_true (by first | (with_reducible assumption) | assumption)
                    have q523 : x13_3 < (y519.length : Int) := of_decide_eq_true (by first | (with_reducible assumption) | assumption)
                    obtain ⟨ad523, A523_0, c523_0, e523, hx523_0, hl523_0, hi523_0⟩ := at_L7 (Kd.N_reads' HO_12.out).2.2 x13_3 p523 q523
                    cases e523
                    obtain ⟨ce523, hce523, hMe523, hcc523⟩ := Kd.N_get HO_12.out [] x13_3 p523 (by first | exact q523 | exact of_decide_eq_true (by first | (with_reducible assumption) | assumption) | (have e_ := (Kd.N_reads' HO_12.out).1; omega))
                    obtain ⟨ua523_0, uc523_0, rfl, ul523_0, ge523_0⟩ := Kd.FK_slice_open hMe523
                    have hv523_0 := hcc523 0 _ rfl
                    rw [Nat.add_zero, show ((Kd.slice 5 (Kd.int .u8))).sz = 1 from rfl, Nat.mul_one] at hv523_0
                    replace hv523_0 := Option.some.inj (hv523_0.symm.trans hx523_0)
                    injection hv523_0 with hva_ hvn_ hvc_
                    rw [hva_] at ge523_0
                    rw [hvc_] at ul523_0
                    have HL523_0 := Aside0.mk (show Kd.V (Kd.int .u8) 5 _ w.heap.size _ _ (rd_L7 y519 x13_3) from Kd.V_mk ul523_0 ge523_0)
                    clear hva_ hvn_ hvc_ ge523_0 ul523_0
                    clear hcc523 hce523
                    have HR523_0 := Aside0.mk hi523_0
                    have HC523_0 := Aside0.mk hl523_0
                    clear hi523_0 hl523_0
                    replace p523 := eq_true p523
                    replace q523 := eq_true q523
                    have hcv96 := Kd.C_string (P := Try.prog) (A := A522_0) (c := c522_0) Try.underlying42 Try.underlying5 Try.underlying9 (by repeat (first | (with_reducible exact HR522_0.out) | (with_reducible refine Kd.C_alloc ?_ _) | (with_reducible refine Kd.C_drewN ?_ _) | (with_reducible refine Kd.C_drew ?_) | exact HR522_0.out))
                    have hcv97 := Kd.C_string (P := Try.prog) (A := A523_0) (c := c523_0) Try.underlying42 Try.underlying5 Try.underlying9 (by repeat (first | (with_reducible exact HR523_0.out) | (with_reducible refine Kd.C_alloc ?_ _) | (with_reducible refine Kd.C_drewN ?_ _) | (with_reducible refine Kd.C_drew ?_) | exact HR523_0.out))
                    refine start_ (n := 11) (S := fun w' => w'.cell? (ad522.add (x13_3).toNat) = some (.slice A522_0 (rd_L7 y510 x13_3).length c522_0) ∧ w'.cell? (ad523.add (x13_3).toNat) = some (.slice A523_0 (rd_L7 y519 x13_3).length c523_0) ∧ (convert 42 9 (.slice A522_0 (rd_L7 y510 x13_3).length c522_0)).run Try.prog w' = .ok (.string (strOfNums (rd_L7 y510 x13_3))) w' ∧ (convert 42 9 (.slice A523_0 (rd_L7 y519 x13_3).length c523_0)).run Try.prog w' = .ok (.string (strOfNums (rd_L7 y519 x13_3))) w') (ds := []) (bs 11 0) (by kernel_rfl) rfl rfl ⟨hx522_0, hx523_0, (Kd.C_string (P := Try.prog) (A := A522_0) (c := c522_0) Try.underlying42 Try.underlying5 Try.underlying9 (Kd.C_drew (by repeat (first | (with_reducible exact HR522_0.out) | (with_reducible refine Kd.C_alloc ?_ _) | (with_reducible refine Kd.C_drewN ?_ _) | (with_reducible refine Kd.C_drew ?_) | exact HR522_0.out)))), (Kd.C_string (P := Try.prog) (A := A523_0) (c := c523_0) Try.underlying42 Try.underlying5 Try.underlying9 (Kd.C_drew (by repeat (first | (with_reducible exact HR523_0.out) | (with_reducible refine Kd.C_alloc ?_ _) | (with_reducible refine Kd.C_drewN ?_ _) | (with_reducible refine Kd.C_drew ?_) | exact HR523_0.out))))⟩ (fun hHeld => ?_); refine with_tabW crossroadslaw17_ClassApart.tab16 crossroadslaw17_ClassApart.bits16 (fun HT_ HW_ => ?_)
                    generalize wr.drew = w94 at HO_11 HO_12 HO_490000 HO_490001 HO_490002 HO_501000 HO_501001 HO_501002 BK476 BK489 BK500 HB HL522_0 HL523_0 HR522_0 HR523_0 hx522_0 hx523_0 hHeld ⊢
                    refine pq_ 0 (some 80) (bs 11 1) rfl rfl (any_of HT_.out (by kernel_rfl)) ?_
                    refine pq_ 1 (some 81) (bs 11 3) rfl rfl (any_of HT_.out (by kernel_rfl)) ?_
                    refine pq_ 2 (some 82) (bs 11 7) rfl rfl (any_of HT_.out (by kernel_rfl)) ?_
                    refine pq_ 5 (some 85) (bs 11 39) rfl rfl (any_of HT_.out (by kernel_rfl)) ?_
                    refine pq_ 6 (some 86) (bs 11 103) rfl rfl (any_of HT_.out (by kernel_rfl)) ?_
                    refine pq_ 7 (some 87) (bs 11 231) rfl rfl (any_of HT_.out (by kernel_rfl)) ?_
                    refine tq_ 3 (some 83) (bs 11 239) rfl rfl (take_ofW HT_.out HW_.out (by kernel_rfl)) hHeld (Or.inl ⟨by rfl, by rintro w' ⟨s0, s1, s2, s3⟩; go_simp; with_reducible rfl⟩) ?_
                    refine tq_ 4 (some 84) (bs 11 255) rfl rfl (take_ofW HT_.out HW_.out (by kernel_rfl)) hHeld (Or.inl ⟨by rfl, by rintro w' ⟨s0, s1, s2, s3⟩; go_simp; with_reducible rfl⟩) ?_
                    refine tq_ 8 (some 88) (bs 11 511) rfl rfl (take_ofW HT_.out HW_.out (by kernel_rfl)) hHeld (Or.inl ⟨by rfl, by rintro w' ⟨s0, s1, s2, s3⟩; go_simp; with_reducible rfl⟩) ?_
                    refine tq_ 9 (some 89) (bs 11 1023) rfl rfl (take_ofW HT_.out HW_.out (by kernel_rfl)) hHeld (Or.inl ⟨by rfl, by rintro w' ⟨s0, s1, s2, s3⟩; go_simp; with_reducible rfl⟩) ?_
                    refine pq_ 10 (some 90) (bs 11 2047) rfl rfl (any_of HT_.out (by kernel_rfl)) ?_
                    refine done_ (done_of HT_.out (by kernel_rfl)) ?_
                    try go_wp2
                    have n0_ := Aside0.mk (Kd.N_drew HO_11.out)
                    have n1_ := Aside0.mk (Kd.N_drew HO_12.out)
                    have n2_ := Aside0.mk (Kd.V_drew HO_490000.out)
                    have n3_ := Aside0.mk (Kd.V_drew HO_490001.out)
                    have n4_ := Aside0.mk (Kd.V_drew HO_490002.out)
                    have n5_ := Aside0.mk (Kd.V_drew HO_501000.out)
                    have n6_ := Aside0.mk (Kd.V_drew HO_501001.out)
                    have n7_ := Aside0.mk (Kd.V_drew HO_501002.out)
                    have n8_ := Aside0.mk (Kd.V_drew HL522_0.out)
                    have n9_ := Aside0.mk (Kd.V_drew HL523_0.out)
                    have n10_ := Aside0.mk (blk_drew BK476.out)
                    have n11_ := Aside0.mk (blk_drew BK489.out)
                    have n12_ := Aside0.mk (blk_drew BK500.out)
                    have n13_ := Aside0.mk (below_drew1 HB.out)
                    clear HO_11
                    clear HO_12
                    clear HO_490000
                    clear HO_490001
                    clear HO_490002
                    clear HO_501000
                    clear HO_501001
                    clear HO_501002
                    clear HL522_0
                    clear HL523_0
                    clear BK476
                    clear BK489
                    clear BK500
                    clear HB
                    have HO_11 := n0_
                    have HO_12 := n1_
                    have HO_490000 := n2_
                    have HO_490001 := n3_
                    have HO_490002 := n4_
                    have HO_501000 := n5_
                    have HO_501001 := n6_
                    have HO_501002 := n7_
                    have HL522_0 := n8_
                    have HL523_0 := n9_
                    have BK476 := n10_
                    have BK489 := n11_
                    have BK500 := n12_
                    have HB := n13_
                    clear n0_ n1_ n2_ n3_ n4_ n5_ n6_ n7_ n8_ n9_ n10_ n11_ n12_ n13_
                    have p524 : 0 ≤ (x13_3 : Int) := of_decide_eq_true (by first | (with_reducible assumption) | assumption)
                    have q524 : x13_3 < (y510.length : Int) := of_decide_eq_true (by first | (with_reducible assumption) | assumption)
                    obtain ⟨ad524, A524_0, c524_0, e524, hx524_0, hl524_0, hi524_0⟩ := at_L7 (Kd.N_reads' HO_11.out).2.2 x13_3 p524 q524
                    obtain rfl : ad522 = ad524 := (by injection e524)
                    obtain ⟨ce524, hce524, hMe524, hcc524⟩ := Kd.N_get HO_11.out [] x13_3 p524 (by first | exact q524 | exact of_decide_eq_true (by first | (with_reducible assumption) | assumption) | (have e_ := (Kd.N_reads' HO_11.out).1; omega))
                    obtain ⟨ua524_0, uc524_0, rfl, ul524_0, ge524_0⟩ := Kd.FK_slice_open hMe524
                    have hv524_0 := hcc524 0 _ rfl
                    rw [Nat.add_zero, show ((Kd.slice 5 (Kd.int .u8))).sz = 1 from rfl, Nat.mul_one] at hv524_0
                    replace hv524_0 := Option.some.inj (hv524_0.symm.trans hx524_0)
                    injection hv524_0 with hva_ hvn_ hvc_
                    rw [hva_] at ge524_0
                    rw [hvc_] at ul524_0
                    have HL524_0 := Aside0.mk (show Kd.V (Kd.int .u8) 5 _ w.heap.size _ _ (rd_L7 y510 x13_3) from Kd.V_mk ul524_0 ge524_0)
                    clear hva_ hvn_ hvc_ ge524_0 ul524_0
                    clear hcc524 hce524
                    have HR524_0 := Aside0.mk hi524_0
                    have HC524_0 := Aside0.mk hl524_0
                    clear hi524_0 hl524_0
                    replace p524 := eq_true p524
                    replace q524 := eq_true q524
                    (try clear hx522_0)
                    (try clear hx522_0)
                    (try clear hx522_0)
                    (try clear hx522_0)
                    (try clear hx522_0)
                    (try clear hx522_0)
                    have p525 : 0 ≤ (x13_3 : Int) := of_decide_eq_true (by first | (with_reducible assumption) | assumption)
                    have q525 : x13_3 < (y519.length : Int) := of_decide_eq_true (by first | (with_reducible assumption) | assumption)
                    obtain ⟨ad525, A525_0, c525_0, e525, hx525_0, hl525_0, hi525_0⟩ := at_L7 (Kd.N_reads' HO_12.out).2.2 x13_3 p525 q525
                    obtain rfl : ad523 = ad525 := (by injection e525)
                    obtain ⟨ce525, hce525, hMe525, hcc525⟩ := Kd.N_get HO_12.out [] x13_3 p525 (by first | exact q525 | exact of_decide_eq_true (by first | (with_reducible assumption) | assumption) | (have e_ := (Kd.N_reads' HO_12.out).1; omega))
                    obtain ⟨ua525_0, uc525_0, rfl, ul525_0, ge525_0⟩ := Kd.FK_slice_open hMe525
                    have hv525_0 := hcc525 0 _ rfl
                    rw [Nat.add_zero, show ((Kd.slice 5 (Kd.int .u8))).sz = 1 from rfl, Nat.mul_one] at hv525_0
                    replace hv525_0 := Option.some.inj (hv525_0.symm.trans hx525_0)
                    injection hv525_0 with hva_ hvn_ hvc_
                    rw [hva_] at ge525_0
                    rw [hvc_] at ul525_0
                    have HL525_0 := Aside0.mk (show Kd.V (Kd.int .u8) 5 _ w.heap.size _ _ (rd_L7 y519 x13_3) from Kd.V_mk ul525_0 ge525_0)
                    clear hva_ hvn_ hvc_ ge525_0 ul525_0
                    clear hcc525 hce525
                    have HR525_0 := Aside0.mk hi525_0
                    have HC525_0 := Aside0.mk hl525_0
                    clear hi525_0 hl525_0
                    replace p525 := eq_true p525
                    replace q525 := eq_true q525
                    (try clear hx523_0)
                    (try clear hx523_0)
                    (try clear hx523_0)
                    (try clear hx523_0)
                    (try clear hx523_0)
                    (try clear hx523_0)
                    refine start_ (n := 38) (S := fun w' => w'.cell? (ad522.add (x13_3).toNat) = some (.slice A524_0 (rd_L7 y510 x13_3).length c524_0) ∧ w'.cell? (ad523.add (x13_3).toNat) = some (.slice A525_0 (rd_L7 y519 x13_3).length c525_0)) (ds := []) (bs 38 0) (by kernel_rfl) rfl rfl ⟨hx524_0, hx525_0⟩ (fun hHeld => ?_); refine with_tabW crossroadslaw17_ClassApart.tab17 crossroadslaw17_ClassApart.bits17 (fun HT_ HW_ => ?_)
                    generalize w94.drew = w99 at HO_11 HO_12 HO_490000 HO_490001 HO_490002 HO_501000 HO_501001 HO_501002 HL522_0 HL523_0 BK476 BK489 BK500 HB HL524_0 HL525_0 HR524_0 HR525_0 hx524_0 hx525_0 hHeld ⊢
                    refine pq_ 0 (some 91) (bs 38 1) rfl rfl (any_of HT_.out (by kernel_rfl)) ?_
                    refine pq_ 1 (some 92) (bs 38 3) rfl rfl (any_of HT_.out (by kernel_rfl)) ?_
                    refine pq_ 2 (some 93) (bs 38 7) rfl rfl (any_of HT_.out (by kernel_rfl)) ?_
                    refine pq_ 5 (some 96) (bs 38 39) rfl rfl (any_of HT_.out (by kernel_rfl)) ?_
                    refine pq_ 6 (some 97) (bs 38 103) rfl rfl (any_of HT_.out (by kernel_rfl)) ?_
                    refine pq_ 7 (some 98) (bs 38 231) rfl rfl (any_of HT_.out (by kernel_rfl)) ?_
                    refine tq_ 3 (some 94) (bs 38 239) rfl rfl (take_ofW HT_.out HW_.out (by kernel_rfl)) hHeld (Or.inl ⟨by rfl, by rintro w' ⟨s0, s1⟩; go_simp; with_reducible rfl⟩) ?_
                    refine pq_ 4 (some 95) (bs 38 255) rfl rfl (any_of HT_.out (by kernel_rfl)) ?_
                    refine tq_ 8 (some 99) (bs 38 511) rfl rfl (take_ofW HT_.out HW_.out (by kernel_rfl)) hHeld (Or.inl ⟨by rfl, by rintro w' ⟨s0, s1⟩; go_simp; with_reducible rfl⟩) ?_
                    refine pq_ 9 (some 100) (bs 38 1023) rfl rfl (any_of HT_.out (by kernel_rfl)) ?_
                    refine pq_ 10 (some 101) (bs 38 2047) rfl rfl (any_of HT_.out (by kernel_rfl)) ?_
                    refine pq_ 11 (some 102) (bs 38 4095) rfl rfl (any_of HT_.out (by kernel_rfl)) ?_
                    refine pu_ 12 (some 103) (bs 38 8191) rfl rfl (any_of HT_.out (by kernel_rfl)) ?_
                    refine pu_ 13 (some 104) (bs 38 16383) rfl rfl (any_of HT_.out (by kernel_rfl)) ?_
                    refine pu_ 14 (some 105) (bs 38 32767) rfl rfl (any_of HT_.out (by kernel_rfl)) ?_
                    refine pu_ 15 (some 106) (bs 38 65535) rfl rfl (any_of HT_.out (by kernel_rfl)) ?_
                    refine pu_ 16 (some 107) (bs 38 131071) rfl rfl (any_of HT_.out (by kernel_rfl)) ?_
                    refine pu_ 17 (some 108) (bs 38 262143) rfl rfl (any_of HT_.out (by kernel_rfl)) ?_
                    refine pu_ 18 (some 109) (bs 38 524287) rfl rfl (any_of HT_.out (by kernel_rfl)) ?_
                    refine pu_ 19 (some 110) (bs 38 1048575) rfl rfl (any_of HT_.out (by kernel_rfl)) ?_
                    refine pu_ 20 (some 111) (bs 38 2097151) rfl rfl (any_of HT_.out (by kernel_rfl)) ?_
                    refine pu_ 21 (some 112) (bs 38 4194303) rfl rfl (any_of HT_.out (by kernel_rfl)) ?_
                    refine pu_ 22 (some 113) (bs 38 8388607) rfl rfl (any_of HT_.out (by kernel_rfl)) ?_
                    refine pu_ 23 (some 114) (bs 38 16777215) rfl rfl (any_of HT_.out (by kernel_rfl)) ?_
                    refine pu_ 24 (some 115) (bs 38 33554431) rfl rfl (any_of HT_.out (by kernel_rfl)) ?_
                    refine pu_ 25 (some 116) (bs 38 67108863) rfl rfl (any_of HT_.out (by kernel_rfl)) ?_
                    refine pu_ 26 (some 117) (bs 38 134217727) rfl rfl (any_of HT_.out (by kernel_rfl)) ?_
                    refine pu_ 27 (some 118) (bs 38 268435455) rfl rfl (any_of HT_.out (by kernel_rfl)) ?_
                    refine pu_ 28 (some 119) (bs 38 536870911) rfl rfl (any_of HT_.out (by kernel_rfl)) ?_
                    refine pu_ 29 (some 120) (bs 38 1073741823) rfl rfl (any_of HT_.out (by kernel_rfl)) ?_
                    refine pu_ 30 (some 121) (bs 38 2147483647) rfl rfl (any_of HT_.out (by kernel_rfl)) ?_
                    refine pu_ 31 (some 122) (bs 38 4294967295) rfl rfl (any_of HT_.out (by kernel_rfl)) ?_
                    refine pu_ 32 (some 123) (bs 38 8589934591) rfl rfl (any_of HT_.out (by kernel_rfl)) ?_
                    refine pu_ 33 (some 124) (bs 38 17179869183) rfl rfl (any_of HT_.out (by kernel_rfl)) ?_
                    refine pu_ 34 (some 125) (bs 38 34359738367) rfl rfl (any_of HT_.out (by kernel_rfl)) ?_
                    refine pu_ 35 (some 126) (bs 38 68719476735) rfl rfl (any_of HT_.out (by kernel_rfl)) ?_
                    refine pq_ 36 (some 127) (bs 38 137438953471) rfl rfl (any_of HT_.out (by kernel_rfl)) ?_
                    refine pq_ 37 (some 14) (bs 38 274877906943) rfl rfl (any_of HT_.out (by kernel_rfl)) ?_
                    refine done_ (done_of HT_.out (by kernel_rfl)) ?_
                    try go_wp2
                    go_ret
                    exact ⟨by first | rfl | (simp [errW_none, errW_some] <;> rfl) | (simp [*, errW_none, errW_some] <;> rfl), by repeat (first | (with_reducible first | exact HB.out | apply below_alloc | apply pw_below_drewN | apply below_drew1 | refine below_set ?_ GE476.out | refine below_set ?_ GE489.out | refine below_set ?_ GE500.out) | exact HB.out)⟩
                   ·rw [if_neg c92] at H
                    have c92b0 : decide (((rd_L7 y510 x13_3).length : Int) < ((rd_L7 y519 x13_3).length : Int)) = false := decide_eq_false c92
                    have c92b1 : decide ((rd_L7 y510 x13_3).length < (rd_L7 y519 x13_3).length) = false := decide_eq_false (fun h => c92 (Int.ofNat_lt.mpr h))
                    clear c92
                    by_cases c100 : ((rd_L7 y510 x13_3).length : Int) = ((rd_L7 y519 x13_3).length : Int)
                    ·rw [if_pos c100] at H
                     have c100b0 : (((rd_L7 y510 x13_3).length : Int) == ((rd_L7 y519 x13_3).length : Int)) = true := beq_iff_eq.mpr c100
                     have c100b1 : (((rd_L7 y510 x13_3).length : Int) != ((rd_L7 y519 x13_3).length : Int)) = false := bne_eq_false_iff_eq.mpr c100
                     have c100b2 : ((rd_L7 y510 x13_3).length == (rd_L7 y519 x13_3).length) = true := by first | simpa using c100 | (simp at c100 ⊢; omega)
                     clear c100
                     obtain rfl := Option.some.inj H
                     obtain ⟨Ao101, co101, eo101⟩ := Kd.N_slice HO_11.out
                     subst eo101
                     try go_wp2
                     have n0_ := Aside0.mk (Kd.N_drew HO_11.out)
                     have n1_ := Aside0.mk (Kd.N_drew HO_12.out)
                     have n2_ := Aside0.mk (Kd.V_drew HO_490000.out)
                     have n3_ := Aside0.mk (Kd.V_drew HO_490001.out)
                     have n4_ := Aside0.mk (Kd.V_drew HO_490002.out)
                     have n5_ := Aside0.mk (Kd.V_drew HO_501000.out)
                     have n6_ := Aside0.mk (Kd.V_drew HO_501001.out)
                     have n7_ := Aside0.mk (Kd.V_drew HO_501002.out)
                     have n8_ := Aside0.mk (blk_drew BK476.out)
                     have n9_ := Aside0.mk (blk_drew BK489.out)
                     have n10_ := Aside0.mk (blk_drew BK500.out)
                     have n11_ := Aside0.mk (below_drew1 HB.out)
                     clear HO_11
                     clear HO_12
                     clear HO_490000
                     clear HO_490001
                     clear HO_490002
                     clear HO_501000
                     clear HO_501001
                     clear HO_501002
                     clear BK476
                     clear BK489
                     clear BK500
                     clear HB
                     have HO_11 := n0_
                     have HO_12 := n1_
                     have HO_490000 := n2_
                     have HO_490001 := n3_
                     have HO_490002 := n4_
                     have HO_501000 := n5_
                     have HO_501001 := n6_
                     have HO_501002 := n7_
                     have BK476 := n8_
                     have BK489 := n9_
                     have BK500 := n10_
                     have HB := n11_
                     clear n0_ n1_ n2_ n3_ n4_ n5_ n6_ n7_ n8_ n9_ n10_ n11_
                     have p522 : 0 ≤ (x13_3 : Int) := of_decide_eq_true (by first | (with_reducible assumption) | assumption)
                     have q522 : x13_3 < (y510.length : Int) := of_decide_eq_true (by first | (with_reducible assumption) | assumption)
                     obtain ⟨ad522, A522_0, c522_0, e522, hx522_0, hl522_0, hi522_0⟩ := at_L7 (Kd.N_reads' HO_11.out).2.2 x13_3 p522 q522
                     cases e522
                     obtain ⟨ce522, hce522, hMe522, hcc522⟩ := Kd.N_get HO_11.out [] x13_3 p522 (by first | exact q522 | exact of_decide_eq_true (by first | (with_reducible assumption) | assumption) | (have e_ := (Kd.N_reads' HO_11.out).1; omega))
                     obtain ⟨ua522_0, uc522_0, rfl, ul522_0, ge522_0⟩ := Kd.FK_slice_open hMe522
                     have hv522_0 := hcc522 0 _ rfl
                     rw [Nat.add_zero, show ((Kd.slice 5 (Kd.int .u8))).sz = 1 from rfl, Nat.mul_one] at hv522_0
                     replace hv522_0 := Option.some.inj (hv522_0.symm.trans hx522_0)
                     injection hv522_0 with hva_ hvn_ hvc_
                     rw [hva_] at ge522_0
                     rw [hvc_] at ul522_0
                     have HL522_0 := Aside0.mk (show Kd.V (Kd.int .u8) 5 _ w.heap.size _ _ (rd_L7 y510 x13_3) from Kd.V_mk ul522_0 ge522_0)
                     clear hva_ hvn_ hvc_ ge522_0 ul522_0
                     clear hcc522 hce522
                     have HR522_0 := Aside0.mk hi522_0
                     have HC522_0 := Aside0.mk hl522_0
                     clear hi522_0 hl522_0
                     replace p522 := eq_true p522
                     replace q522 := eq_true q522
                     obtain ⟨Ao103, co103, eo103⟩ := Kd.N_slice HO_12.out
                     (first | subst eo103 | (injection eo103 with f1_ f2_ f3_; have f4_ := f1_.symm; have f5_ := f3_.symm; clear f1_ f2_ f3_; subst f4_; subst f5_))
                     have p523 : 0 ≤ (x13_3 : Int) := of_decide_eq_true (by first | (with_reducible assumption) | assumption)
                     have q523 : x13_3 < (y519.length : Int) := of_decide_eq_true (by first | (with_reducible assumption) | assumption)
                     obtain ⟨ad523, A523_0, c523_0, e523, hx523_0, hl523_0, hi523_0⟩ := at_L7 (Kd.N_reads' HO_12.out).2.2 x13_3 p523 q523
                     cases e523
                     obtain ⟨ce523, hce523, hMe523, hcc523⟩ := Kd.N_get HO_12.out [] x13_3 p523 (by first | exact q523 | exact of_decide_eq_true (by first | (with_reducible assumption) | assumption) | (have e_ := (Kd.N_reads' HO_12.out).1; omega))
                     obtain ⟨ua523_0, uc523_0, rfl, ul523_0, ge523_0⟩ := Kd.FK_slice_open hMe523
                     have hv523_0 := hcc523 0 _ rfl
                     rw [Nat.add_zero, show ((Kd.slice 5 (Kd.int .u8))).sz = 1 from rfl, Nat.mul_one] at hv523_0
                     replace hv523_0 := Option.some.inj (hv523_0.symm.trans hx523_0)
                     injection hv523_0 with hva_ hvn_ hvc_
                     rw [hva_] at ge523_0
                     rw [hvc_] at ul523_0
                     have HL523_0 := Aside0.mk (show Kd.V (Kd.int .u8) 5 _ w.heap.size _ _ (rd_L7 y519 x13_3) from Kd.V_mk ul523_0 ge523_0)
                     clear hva_ hvn_ hvc_ ge523_0 ul523_0
                     clear hcc523 hce523
                     have HR523_0 := Aside0.mk hi523_0
                     have HC523_0 := Aside0.mk hl523_0
                     clear hi523_0 hl523_0
                     replace p523 := eq_true p523
                     replace q523 := eq_true q523
                     have hcv104 := Kd.C_string (P := Try.prog) (A := A522_0) (c := c522_0) Try.underlying42 Try.underlying5 Try.underlying9 (by repeat (first | (with_reducible exact HR522_0.out) | (with_reducible refine Kd.C_alloc ?_ _) | (with_reducible refine Kd.C_drewN ?_ _) | (with_reducible refine Kd.C_drew ?_) | exact HR522_0.out))
                     have hcv105 := Kd.C_string (P := Try.prog) (A := A523_0) (c := c523_0) Try.underlying42 Try.underlying5 Try.underlying9 (by repeat (first | (with_reducible exact HR523_0.out) | (with_reducible refine Kd.C_alloc ?_ _) | (with_reducible refine Kd.C_drewN ?_ _) | (with_reducible refine Kd.C_drew ?_) | exact HR523_0.out))
                     refine start_ (n := 11) (S := fun w' => w'.cell? (ad522.add (x13_3).toNat) = some (.slice A522_0 (rd_L7 y510 x13_3).length c522_0) ∧ w'.cell? (ad523.add (x13_3).toNat) = some (.slice A523_0 (rd_L7 y519 x13_3).length c523_0) ∧ (convert 42 9 (.slice A522_0 (rd_L7 y510 x13_3).length c522_0)).run Try.prog w' = .ok (.string (strOfNums (rd_L7 y510 x13_3))) w' ∧ (convert 42 9 (.slice A523_0 (rd_L7 y519 x13_3).length c523_0)).run Try.prog w' = .ok (.string (strOfNums (rd_L7 y519 x13_3))) w') (ds := []) (bs 11 0) (by kernel_rfl) rfl rfl ⟨hx522_0, hx523_0, (Kd.C_string (P := Try.prog) (A := A522_0) (c := c522_0) Try.underlying42 Try.underlying5 Try.underlying9 (Kd.C_drew (by repeat (first | (with_reducible exact HR522_0.out) | (with_reducible refine Kd.C_alloc ?_ _) | (with_reducible refine Kd.C_drewN ?_ _) | (with_reducible refine Kd.C_drew ?_) | exact HR522_0.out)))), (Kd.C_string (P := Try.prog) (A := A523_0) (c := c523_0) Try.underlying42 Try.underlying5 Try.underlying9 (Kd.C_drew (by repeat (first | (with_reducible exact HR523_0.out) | (with_reducible refine Kd.C_alloc ?_ _) | (with_reducible refine Kd.C_drewN ?_ _) | (with_reducible refine Kd.C_drew ?_) | exact HR523_0.out))))⟩ (fun hHeld => ?_); refine with_tabW crossroadslaw17_ClassApart.tab16 crossroadslaw17_ClassApart.bits16 (fun HT_ HW_ => ?_)
                     generalize wr.drew = w102 at HO_11 HO_12 HO_490000 HO_490001 HO_490002 HO_501000 HO_501001 HO_501002 BK476 BK489 BK500 HB HL522_0 HL523_0 HR522_0 HR523_0 hx522_0 hx523_0 hHeld ⊢
                     refine pq_ 0 (some 80) (bs 11 1) rfl rfl (any_of HT_.out (by kernel_rfl)) ?_
                     refine pq_ 1 (some 81) (bs 11 3) rfl rfl (any_of HT_.out (by kernel_rfl)) ?_
                     refine pq_ 2 (some 82) (bs 11 7) rfl rfl (any_of HT_.out (by kernel_rfl)) ?_
                     refine pq_ 5 (some 85) (bs 11 39) rfl rfl (any_of HT_.out (by kernel_rfl)) ?_
                     refine pq_ 6 (some 86) (bs 11 103) rfl rfl (any_of HT_.out (by kernel_rfl)) ?_
                     refine pq_ 7 (some 87) (bs 11 231) rfl rfl (any_of HT_.out (by kernel_rfl)) ?_
                     refine tq_ 3 (some 83) (bs 11 239) rfl rfl (take_ofW HT_.out HW_.out (by kernel_rfl)) hHeld (Or.inl ⟨by rfl, by rintro w' ⟨s0, s1, s2, s3⟩; go_simp; with_reducible rfl⟩) ?_
                     refine tq_ 4 (some 84) (bs 11 255) rfl rfl (take_ofW HT_.out HW_.out (by kernel_rfl)) hHeld (Or.inl ⟨by rfl, by rintro w' ⟨s0, s1, s2, s3⟩; go_simp; with_reducible rfl⟩) ?_
                     refine tq_ 8 (some 88) (bs 11 511) rfl rfl (take_ofW HT_.out HW_.out (by kernel_rfl)) hHeld (Or.inl ⟨by rfl, by rintro w' ⟨s0, s1, s2, s3⟩; go_simp; with_reducible rfl⟩) ?_
                     refine tq_ 9 (some 89) (bs 11 1023) rfl rfl (take_ofW HT_.out HW_.out (by kernel_rfl)) hHeld (Or.inl ⟨by rfl, by rintro w' ⟨s0, s1, s2, s3⟩; go_simp; with_reducible rfl⟩) ?_
                     refine pq_ 10 (some 90) (bs 11 2047) rfl rfl (any_of HT_.out (by kernel_rfl)) ?_
                     refine done_ (done_of HT_.out (by kernel_rfl)) ?_
                     try go_wp2
                     have n0_ := Aside0.mk (Kd.N_drew HO_11.out)
                     have n1_ := Aside0.mk (Kd.N_drew HO_12.out)
                     have n2_ := Aside0.mk (Kd.V_drew HO_490000.out)
                     have n3_ := Aside0.mk (Kd.V_drew HO_490001.out)
                     have n4_ := Aside0.mk (Kd.V_drew HO_490002.out)
                     have n5_ := Aside0.mk (Kd.V_drew HO_501000.out)
                     have n6_ := Aside0.mk (Kd.V_drew HO_501001.out)
                     have n7_ := Aside0.mk (Kd.V_drew HO_501002.out)
                     have n8_ := Aside0.mk (Kd.V_drew HL522_0.out)
                     have n9_ := Aside0.mk (Kd.V_drew HL523_0.out)
                     have n10_ := Aside0.mk (blk_drew BK476.out)
                     have n11_ := Aside0.mk (blk_drew BK489.out)
                     have n12_ := Aside0.mk (blk_drew BK500.out)
                     have n13_ := Aside0.mk (below_drew1 HB.out)
                     clear HO_11
                     clear HO_12
                     clear HO_490000
                     clear HO_490001
                     clear HO_490002
                     clear HO_501000
                     clear HO_501001
                     clear HO_501002
                     clear HL522_0
                     clear HL523_0
                     clear BK476
                     clear BK489
                     clear BK500
                     clear HB
                     have HO_11 := n0_
                     have HO_12 := n1_
                     have HO_490000 := n2_
                     have HO_490001 := n3_
                     have HO_490002 := n4_
                     have HO_501000 := n5_
                     have HO_501001 := n6_
                     have HO_501002 := n7_
                     have HL522_0 := n8_
                     have HL523_0 := n9_
                     have BK476 := n10_
                     have BK489 := n11_
                     have BK500 := n12_
                     have HB := n13_
                     clear n0_ n1_ n2_ n3_ n4_ n5_ n6_ n7_ n8_ n9_ n10_ n11_ n12_ n13_
                     have p524 : 0 ≤ (x13_3 : Int) := of_decide_eq_true (by first | (with_reducible assumption) | assumption)
                     have q524 : x13_3 < (y510.length : Int) := of_decide_eq_true (by first | (with_reducible assumption) | assumption)
                     obtain ⟨ad524, A524_0, c524_0, e524, hx524_0, hl524_0, hi524_0⟩ := at_L7 (Kd.N_reads' HO_11.out).2.2 x13_3 p524 q524
                     obtain rfl : ad522 = ad524 := (by injection e524)
                     obtain ⟨ce524, hce524, hMe524, hcc524⟩ := Kd.N_get HO_11.out [] x13_3 p524 (by first | exact q524 | exact of_decide_eq_true (by first | (with_reducible assumption) | assumption) | (have e_ := (Kd.N_reads' HO_11.out).1; omega))
                     obtain ⟨ua524_0, uc524_0, rfl, ul524_0, ge524_0⟩ := Kd.FK_slice_open hMe524
                     have hv524_0 := hcc524 0 _ rfl
                     rw [Nat.add_zero, show ((Kd.slice 5 (Kd.int .u8))).sz = 1 from rfl, Nat.mul_one] at hv524_0
                     replace hv524_0 := Option.some.inj (hv524_0.symm.trans hx524_0)
                     injection hv524_0 with hva_ hvn_ hvc_
                     rw [hva_] at ge524_0
                     rw [hvc_] at ul524_0
                     have HL524_0 := Aside0.mk (show Kd.V (Kd.int .u8) 5 _ w.heap.size _ _ (rd_L7 y510 x13_3) from Kd.V_mk ul524_0 ge524_0)
                     clear hva_ hvn_ hvc_ ge524_0 ul524_0
                     clear hcc524 hce524
                     have HR524_0 := Aside0.mk hi524_0
                     have HC524_0 := Aside0.mk hl524_0
                     clear hi524_0 hl524_0
                     replace p524 := eq_true p524
                     replace q524 := eq_true q524
                     (try clear hx522_0)
                     (try clear hx522_0)
                     (try clear hx522_0)
                     (try clear hx522_0)
                     (try clear hx522_0)
                     (try clear hx522_0)
                     (try clear hx522_0)
                     (try clear hx522_0)
                     (try clear hx522_0)
                     (try clear hx522_0)
                     (try clear hx522_0)
                     have p525 : 0 ≤ (x13_3 : Int) := of_decide_eq_true (by first | (with_reducible assumption) | assumption)
                     have q525 : x13_3 < (y519.length : Int) := of_decide_eq_true (by first | (with_reducible assumption) | assumption)
                     obtain ⟨ad525, A525_0, c525_0, e525, hx525_0, hl525_0, hi525_0⟩ := at_L7 (Kd.N_reads' HO_12.out).2.2 x13_3 p525 q525
                     obtain rfl : ad523 = ad525 := (by injection e525)
                     obtain ⟨ce525, hce525, hMe525, hcc525⟩ := Kd.N_get HO_12.out [] x13_3 p525 (by first | exact q525 | exact of_decide_eq_true (by first | (with_reducible assumption) | assumption) | (have e_ := (Kd.N_reads' HO_12.out).1; omega))
                     obtain ⟨ua525_0, uc525_0, rfl, ul525_0, ge525_0⟩ := Kd.FK_slice_open hMe525
                     have hv525_0 := hcc525 0 _ rfl
                     rw [Nat.add_zero, show ((Kd.slice 5 (Kd.int .u8))).sz = 1 from rfl, Nat.mul_one] at hv525_0
                     replace hv525_0 := Option.some.inj (hv525_0.symm.trans hx525_0)
                     injection hv525_0 with hva_ hvn_ hvc_
                     rw [hva_] at ge525_0
                     rw [hvc_] at ul525_0
                     have HL525_0 := Aside0.mk (show Kd.V (Kd.int .u8) 5 _ w.heap.size _ _ (rd_L7 y519 x13_3) from Kd.V_mk ul525_0 ge525_0)
                     clear hva_ hvn_ hvc_ ge525_0 ul525_0
                     clear hcc525 hce525
                     have HR525_0 := Aside0.mk hi525_0
                     have HC525_0 := Aside0.mk hl525_0
                     clear hi525_0 hl525_0
                     replace p525 := eq_true p525
                     replace q525 := eq_true q525
                     (try clear hx523_0)
                     (try clear hx523_0)
                     (try clear hx523_0)
                     (try clear hx523_0)
                     (try clear hx523_0)
                     (try clear hx523_0)
                     (try clear hx523_0)
                     (try clear hx523_0)
                     (try clear hx523_0)
                     (try clear hx523_0)
                     (try clear hx523_0)
                     have p526 : 0 ≤ (x13_3 : Int) := of_decide_eq_true (by first | (with_reducible assumption) | assumption)
                     have q526 : x13_3 < (y510.length : Int) := of_decide_eq_true (by first | (with_reducible assumption) | assumption)
                     obtain ⟨ad526, A526_0, c526_0, e526, hx526_0, hl526_0, hi526_0⟩ := at_L7 (Kd.N_reads' HO_11.out).2.2 x13_3 p526 q526
                     obtain rfl : ad522 = ad526 := (by injection e526)
                     obtain ⟨ce526, hce526, hMe526, hcc526⟩ := Kd.N_get HO_11.out [] x13_3 p526 (by first | exact q526 | exact of_decide_eq_true (by first | (with_reducible assumption) | assumption) | (have e_ := (Kd.N_reads' HO_11.out).1; omega))
                     obtain ⟨ua526_0, uc526_0, rfl, ul526_0, ge526_0⟩ := Kd.FK_slice_open hMe526
                     have hv526_0 := hcc526 0 _ rfl
                     rw [Nat.add_zero, show ((Kd.slice 5 (Kd.int .u8))).sz = 1 from rfl, Nat.mul_one] at hv526_0
                     replace hv526_0 := Option.some.inj (hv526_0.symm.trans hx526_0)
                     injection hv526_0 with hva_ hvn_ hvc_
                     rw [hva_] at ge526_0
                     rw [hvc_] at ul526_0
                     have HL526_0 := Aside0.mk (show Kd.V (Kd.int .u8) 5 _ w.heap.size _ _ (rd_L7 y510 x13_3) from Kd.V_mk ul526_0 ge526_0)
                     clear hva_ hvn_ hvc_ ge526_0 ul526_0
                     clear hcc526 hce526
                     have HR526_0 := Aside0.mk hi526_0
                     have HC526_0 := Aside0.mk hl526_0
                     clear hi526_0 hl526_0
                     replace p526 := eq_true p526
                     replace q526 := eq_true q526
                     have ea_ := Option.some.inj (hx524_0.symm.trans hx526_0)
                     injection ea_ with ea_ en_ ec_
                     subst ea_
                     subst ec_
                     clear en_
                     have p527 : 0 ≤ (x13_3 : Int) := of_decide_eq_true (by first | (with_reducible assumption) | assumption)
                     have q527 : x13_3 < (y519.length : Int) := of_decide_eq_true (by first | (with_reducible assumption) | assumption)
                     obtain ⟨ad527, A527_0, c527_0, e527, hx527_0, hl527_0, hi527_0⟩ := at_L7 (Kd.N_reads' HO_12.out).2.2 x13_3 p527 q527
                     obtain rfl : ad523 = ad527 := (by injection e527)
                     obtain ⟨ce527, hce527, hMe527, hcc527⟩ := Kd.N_get HO_12.out [] x13_3 p527 (by first | exact q527 | exact of_decide_eq_true (by first | (with_reducible assumption) | assumption) | (have e_ := (Kd.N_reads' HO_12.out).1; omega))
                     obtain ⟨ua527_0, uc527_0, rfl, ul527_0, ge527_0⟩ := Kd.FK_slice_open hMe527
                     have hv527_0 := hcc527 0 _ rfl
                     rw [Nat.add_zero, show ((Kd.slice 5 (Kd.int .u8))).sz = 1 from rfl, Nat.mul_one] at hv527_0
                     replace hv527_0 := Option.some.inj (hv527_0.symm.trans hx527_0)
                     injection hv527_0 with hva_ hvn_ hvc_
                     rw [hva_] at ge527_0
                     rw [hvc_] at ul527_0
                     have HL527_0 := Aside0.mk (show Kd.V (Kd.int .u8) 5 _ w.heap.size _ _ (rd_L7 y519 x13_3) from Kd.V_mk ul527_0 ge527_0)
                     clear hva_ hvn_ hvc_ ge527_0 ul527_0
                     clear hcc527 hce527
                     have HR527_0 := Aside0.mk hi527_0
                     have HC527_0 := Aside0.mk hl527_0
                     clear hi527_0 hl527_0
                     replace p527 := eq_true p527
                     replace q527 := eq_true q527
                     have ea_ := Option.some.inj (hx525_0.symm.trans hx527_0)
                     injection ea_ with ea_ en_ ec_
                     subst ea_
                     subst ec_
                     clear en_
                     have p528 : 0 ≤ (x13_3 : Int) := of_decide_eq_true (by first | (with_reducible assumption) | assumption)
                     have q528 : x13_3 < (y510.length : Int) := of_decide_eq_true (by first | (with_reducible assumption) | assumption)
                     obtain ⟨ad528, A528_0, c528_0, e528, hx528_0, hl528_0, hi528_0⟩ := at_L7 (Kd.N_reads' HO_11.out).2.2 x13_3 p528 q528
                     obtain rfl : ad522 = ad528 := (by injection e528)
                     obtain ⟨ce528, hce528, hMe528, hcc528⟩ := Kd.N_get HO_11.out [] x13_3 p528 (by first | exact q528 | exact of_decide_eq_true (by first | (with_reducible assumption) | assumption) | (have e_ := (Kd.N_reads' HO_11.out).1; omega))
                     obtain ⟨ua528_0, uc528_0, rfl, ul528_0, ge528_0⟩ := Kd.FK_slice_open hMe528
                     have hv528_0 := hcc528 0 _ rfl
                     rw [Nat.add_zero, show ((Kd.slice 5 (Kd.int .u8))).sz = 1 from rfl, Nat.mul_one] at hv528_0
                     replace hv528_0 := Option.some.inj (hv528_0.symm.trans hx528_0)
                     injection hv528_0 with hva_ hvn_ hvc_
                     rw [hva_] at ge528_0
                     rw [hvc_] at ul528_0
                     have HL528_0 := Aside0.mk (show Kd.V (Kd.int .u8) 5 _ w.heap.size _ _ (rd_L7 y510 x13_3) from Kd.V_mk ul528_0 ge528_0)
                     clear hva_ hvn_ hvc_ ge528_0 ul528_0
                     clear hcc528 hce528
                     have HR528_0 := Aside0.mk hi528_0
                     have HC528_0 := Aside0.mk hl528_0
                     clear hi528_0 hl528_0
                     replace p528 := eq_true p528
                     replace q528 := eq_true q528
                     have ea_ := Option.some.inj (hx524_0.symm.trans hx528_0)
                     injection ea_ with ea_ en_ ec_
                     subst ea_
                     subst ec_
                     clear en_
                     have p529 : 0 ≤ (x13_3 : Int) := of_decide_eq_true (by first | (with_reducible assumption) | assumption)
                     have q529 : x13_3 < (y519.length : Int) := of_decide_eq_true (by first | (with_reducible assumption) | assumption)
                     obtain ⟨ad529, A529_0, c529_0, e529, hx529_0, hl529_0, hi529_0⟩ := at_L7 (Kd.N_reads' HO_12.out).2.2 x13_3 p529 q529
                     obtain rfl : ad523 = ad529 := (by injection e529)
                     obtain ⟨ce529, hce529, hMe529, hcc529⟩ := Kd.N_get HO_12.out [] x13_3 p529 (by first | exact q529 | exact of_decide_eq_true (by first | (with_reducible assumption) | assumption) | (have e_ := (Kd.N_reads' HO_12.out).1; omega))
                     obtain ⟨ua529_0, uc529_0, rfl, ul529_0, ge529_0⟩ := Kd.FK_slice_open hMe529
                     have hv529_0 := hcc529 0 _ rfl
                     rw [Nat.add_zero, show ((Kd.slice 5 (Kd.int .u8))).sz = 1 from rfl, Nat.mul_one] at hv529_0
                     replace hv529_0 := Option.some.inj (hv529_0.symm.trans hx529_0)
                     injection hv529_0 with hva_ hvn_ hvc_
                     rw [hva_] at ge529_0
                     rw [hvc_] at ul529_0
                     have HL529_0 := Aside0.mk (show Kd.V (Kd.int .u8) 5 _ w.heap.size _ _ (rd_L7 y519 x13_3) from Kd.V_mk ul529_0 ge529_0)
                     clear hva_ hvn_ hvc_ ge529_0 ul529_0
                     clear hcc529 hce529
                     have HR529_0 := Aside0.mk hi529_0
                     have HC529_0 := Aside0.mk hl529_0
                     clear hi529_0 hl529_0
                     replace p529 := eq_true p529
                     replace q529 := eq_true q529
                     have ea_ := Option.some.inj (hx525_0.symm.trans hx529_0)
                     injection ea_ with ea_ en_ ec_
                     subst ea_
                     subst ec_
                     clear en_
                     have hcv108 := Kd.C_string (P := Try.prog) (A := A524_0) (c := c524_0) Try.underlying42 Try.underlying5 Try.underlying9 (by repeat (first | (with_reducible exact HR528_0.out) | (with_reducible refine Kd.C_alloc ?_ _) | (with_reducible refine Kd.C_drewN ?_ _) | (with_reducible refine Kd.C_drew ?_) | exact HR528_0.out))
                     have hcv109 := Kd.C_string (P := Try.prog) (A := A525_0) (c := c525_0) Try.underlying42 Try.underlying5 Try.underlying9 (by repeat (first | (with_reducible exact HR529_0.out) | (with_reducible refine Kd.C_alloc ?_ _) | (with_reducible refine Kd.C_drewN ?_ _) | (with_reducible refine Kd.C_drew ?_) | exact HR529_0.out))
                     refine start_ (n := 38) (S := fun w' => w'.cell? (ad522.add (x13_3).toNat) = some (.slice A524_0 (rd_L7 y510 x13_3).length c524_0) ∧ w'.cell? (ad523.add (x13_3).toNat) = some (.slice A525_0 (rd_L7 y519 x13_3).length c525_0) ∧ w'.cell? (ad522.add (x13_3).toNat) = some (.slice A524_0 (rd_L7 y510 x13_3).length c524_0) ∧ w'.cell? (ad523.add (x13_3).toNat) = some (.slice A525_0 (rd_L7 y519 x13_3).length c525_0) ∧ w'.cell? (ad522.add (x13_3).toNat) = some (.slice A524_0 (rd_L7 y510 x13_3).length c524_0) ∧ w'.cell? (ad523.add (x13_3).toNat) = some (.slice A525_0 (rd_L7 y519 x13_3).length c525_0) ∧ (convert 42 9 (.slice A524_0 (rd_L7 y510 x13_3).length c524_0)).run Try.prog w' = .ok (.string (strOfNums (rd_L7 y510 x13_3))) w' ∧ (convert 42 9 (.slice A525_0 (rd_L7 y519 x13_3).length c525_0)).run Try.prog w' = .ok (.string (strOfNums (rd_L7 y519 x13_3))) w') (ds := []) (bs 38 0) (by kernel_rfl) rfl rfl ⟨hx524_0, hx525_0, hx526_0, hx527_0, hx528_0, hx529_0, (Kd.C_string (P := Try.prog) (A := A524_0) (c := c524_0) Try.underlying42 Try.underlying5 Try.underlying9 (Kd.C_drew (by repeat (first | (with_reducible exact HR528_0.out) | (with_reducible refine Kd.C_alloc ?_ _) | (with_reducible refine Kd.C_drewN ?_ _) | (with_reducible refine Kd.C_drew ?_) | exact HR528_0.out)))), (Kd.C_string (P := Try.prog) (A := A525_0) (c := c525_0) Try.underlying42 Try.underlying5 Try.underlying9 (Kd.C_drew (by repeat (first | (with_reducible exact HR529_0.out) | (with_reducible refine Kd.C_alloc ?_ _) | (with_reducible refine Kd.C_drewN ?_ _) | (with_reducible refine Kd.C_drew ?_) | exact HR529_0.out))))⟩ (fun hHeld => ?_); refine with_tabW crossroadslaw17_ClassApart.tab17 crossroadslaw17_ClassApart.bits17 (fun HT_ HW_ => ?_)
                     generalize w102.drew = w107 at HO_11 HO_12 HO_490000 HO_490001 HO_490002 HO_501000 HO_501001 HO_501002 HL522_0 HL523_0 BK476 BK489 BK500 HB HL524_0 HL525_0 HL526_0 HL527_0 HL528_0 HL529_0 HR524_0 HR525_0 HR526_0 HR527_0 HR528_0 HR529_0 hx524_0 hx525_0 hx526_0 hx527_0 hx528_0 hx529_0 hHeld ⊢
                     refine pq_ 0 (some 91) (bs 38 1) rfl rfl (any_of HT_.out (by kernel_rfl)) ?_
                     refine pq_ 1 (some 92) (bs 38 3) rfl rfl (any_of HT_.out (by kernel_rfl)) ?_
                     refine pq_ 2 (some 93) (bs 38 7) rfl rfl (any_of HT_.out (by kernel_rfl)) ?_
                     refine pq_ 5 (some 96) (bs 38 39) rfl rfl (any_of HT_.out (by kernel_rfl)) ?_
                     refine pq_ 6 (some 97) (bs 38 103) rfl rfl (any_of HT_.out (by kernel_rfl)) ?_
                     refine pq_ 7 (some 98) (bs 38 231) rfl rfl (any_of HT_.out (by kernel_rfl)) ?_
                     refine tq_ 3 (some 94) (bs 38 239) rfl rfl (take_ofW HT_.out HW_.out (by kernel_rfl)) hHeld (Or.inl ⟨by rfl, by rintro w' ⟨s0, s1, s2, s3, s4, s5, s6, s7⟩; go_simp; with_reducible rfl⟩) ?_
                     refine pq_ 4 (some 95) (bs 38 255) rfl rfl (any_of HT_.out (by kernel_rfl)) ?_
                     refine tq_ 8 (some 99) (bs 38 511) rfl rfl (take_ofW HT_.out HW_.out (by kernel_rfl)) hHeld (Or.inl ⟨by rfl, by rintro w' ⟨s0, s1, s2, s3, s4, s5, s6, s7⟩; go_simp; with_reducible rfl⟩) ?_
                     refine pq_ 9 (some 100) (bs 38 1023) rfl rfl (any_of HT_.out (by kernel_rfl)) ?_
                     refine pq_ 10 (some 101) (bs 38 2047) rfl rfl (any_of HT_.out (by kernel_rfl)) ?_
                     refine pq_ 11 (some 102) (bs 38 4095) rfl rfl (any_of HT_.out (by kernel_rfl)) ?_
                     refine pq_ 12 (some 103) (bs 38 8191) rfl rfl (any_of HT_.out (by kernel_rfl)) ?_
                     refine pq_ 13 (some 104) (bs 38 16383) rfl rfl (any_of HT_.out (by kernel_rfl)) ?_
                     refine pq_ 14 (some 105) (bs 38 32767) rfl rfl (any_of HT_.out (by kernel_rfl)) ?_
                     refine pq_ 17 (some 108) (bs 38 163839) rfl rfl (any_of HT_.out (by kernel_rfl)) ?_
                     refine pq_ 18 (some 109) (bs 38 425983) rfl rfl (any_of HT_.out (by kernel_rfl)) ?_
                     refine pq_ 19 (some 110) (bs 38 950271) rfl rfl (any_of HT_.out (by kernel_rfl)) ?_
                     refine tq_ 15 (some 106) (bs 38 983039) rfl rfl (take_ofW HT_.out HW_.out (by kernel_rfl)) hHeld (Or.inl ⟨by rfl, by rintro w' ⟨s0, s1, s2, s3, s4, s5, s6, s7⟩; go_simp; with_reducible rfl⟩) ?_
                     refine pq_ 16 (some 107) (bs 38 1048575) rfl rfl (any_of HT_.out (by kernel_rfl)) ?_
                     refine tq_ 20 (some 111) (bs 38 2097151) rfl rfl (take_ofW HT_.out HW_.out (by kernel_rfl)) hHeld (Or.inl ⟨by rfl, by rintro w' ⟨s0, s1, s2, s3, s4, s5, s6, s7⟩; go_simp; with_reducible rfl⟩) ?_
                     refine pq_ 21 (some 112) (bs 38 4194303) rfl rfl (any_of HT_.out (by kernel_rfl)) ?_
                     refine pq_ 22 (some 113) (bs 38 8388607) rfl rfl (any_of HT_.out (by kernel_rfl)) ?_
                     refine pq_ 23 (some 114) (bs 38 16777215) rfl rfl (any_of HT_.out (by kernel_rfl)) ?_
                     refine pq_ 24 (some 115) (bs 38 33554431) rfl rfl (any_of HT_.out (by kernel_rfl)) ?_
                     refine pq_ 25 (some 116) (bs 38 67108863) rfl rfl (any_of HT_.out (by kernel_rfl)) ?_
                     refine pq_ 26 (some 117) (bs 38 134217727) rfl rfl (any_of HT_.out (by kernel_rfl)) ?_
                     refine pq_ 29 (some 120) (bs 38 671088639) rfl rfl (any_of HT_.out (by kernel_rfl)) ?_
                     refine pq_ 30 (some 121) (bs 38 1744830463) rfl rfl (any_of HT_.out (by kernel_rfl)) ?_
                     refine pq_ 31 (some 122) (bs 38 3892314111) rfl rfl (any_of HT_.out (by kernel_rfl)) ?_
                     refine tq_ 27 (some 118) (bs 38 4026531839) rfl rfl (take_ofW HT_.out HW_.out (by kernel_rfl)) hHeld (Or.inl ⟨by rfl, by rintro w' ⟨s0, s1, s2, s3, s4, s5, s6, s7⟩; go_simp; with_reducible rfl⟩) ?_
                     refine tq_ 28 (some 119) (bs 38 4294967295) rfl rfl (take_ofW HT_.out HW_.out (by kernel_rfl)) hHeld (Or.inl ⟨by rfl, by rintro w' ⟨s0, s1, s2, s3, s4, s5, s6, s7⟩; go_simp; with_reducible rfl⟩) ?_
                     refine tq_ 32 (some 123) (bs 38 8589934591) rfl rfl (take_ofW HT_.out HW_.out (by kernel_rfl)) hHeld (Or.inl ⟨by rfl, by rintro w' ⟨s0, s1, s2, s3, s4, s5, s6, s7⟩; go_simp; with_reducible rfl⟩) ?_
                     refine tq_ 33 (some 124) (bs 38 17179869183) rfl rfl (take_ofW HT_.out HW_.out (by kernel_rfl)) hHeld (Or.inl ⟨by rfl, by rintro w' ⟨s0, s1, s2, s3, s4, s5, s6, s7⟩; go_simp; with_reducible rfl⟩) ?_
                     refine pq_ 34 (some 125) (bs 38 34359738367) rfl rfl (any_of HT_.out (by kernel_rfl)) ?_
                     refine pq_ 35 (some 126) (bs 38 68719476735) rfl rfl (any_of HT_.out (by kernel_rfl)) ?_
                     refine pq_ 36 (some 127) (bs 38 137438953471) rfl rfl (any_of HT_.out (by kernel_rfl)) ?_
                     refine pq_ 37 (some 14) (bs 38 274877906943) rfl rfl (any_of HT_.out (by kernel_rfl)) ?_
                     refine done_ (done_of HT_.out (by kernel_rfl)) ?_
                     try go_wp2
                     go_ret
                     exact ⟨by first | rfl | (simp [errW_none, errW_some] <;> rfl) | (simp [*, errW_none, errW_some] <;> rfl), by repeat (first | (with_reducible first | exact HB.out | apply below_alloc | apply pw_below_drewN | apply below_drew1 | refine below_set ?_ GE476.out | refine below_set ?_ GE489.out | refine below_set ?_ GE500.out) | exact HB.out)⟩
                    ·rw [if_neg c100] at H
                     have c100b0 : (((rd_L7 y510 x13_3).length : Int) == ((rd_L7 y519 x13_3).length : Int)) = false := beq_eq_false_iff_ne.mpr c100
                     have c100b1 : (((rd_L7 y510 x13_3).length : Int) != ((rd_L7 y519 x13_3).length : Int)) = true := bne_iff_ne.mpr c100
                     have c100b2 : ((rd_L7 y510 x13_3).length == (rd_L7 y519 x13_3).length) = false := by first | simpa using c100 | (simp at c100 ⊢; omega)
                     obtain rfl := Option.some.inj H
                     obtain ⟨Ao111, co111, eo111⟩ := Kd.N_slice HO_11.out
                     subst eo111
                     try go_wp2
                     have n0_ := Aside0.mk (Kd.N_drew HO_11.out)
                     have n1_ := Aside0.mk (Kd.N_drew HO_12.out)
                     have n2_ := Aside0.mk (Kd.V_drew HO_490000.out)
                     have n3_ := Aside0.mk (Kd.V_drew HO_490001.out)
                     have n4_ := Aside0.mk (Kd.V_drew HO_490002.out)
                     have n5_ := Aside0.mk (Kd.V_drew HO_501000.out)
                     have n6_ := Aside0.mk (Kd.V_drew HO_501001.out)
                     have n7_ := Aside0.mk (Kd.V_drew HO_501002.out)
                     have n8_ := Aside0.mk (blk_drew BK476.out)
                     have n9_ := Aside0.mk (blk_drew BK489.out)
                     have n10_ := Aside0.mk (blk_drew BK500.out)
                     have n11_ := Aside0.mk (below_drew1 HB.out)
                     clear HO_11
                     clear HO_12
                     clear HO_490000
                     clear HO_490001
                     clear HO_490002
                     clear HO_501000
                     clear HO_501001
                     clear HO_501002
                     clear BK476
                     clear BK489
                     clear BK500
                     clear HB
                     have HO_11 := n0_
                     have HO_12 := n1_
                     have HO_490000 := n2_
                     have HO_490001 := n3_
                     have HO_490002 := n4_
                     have HO_501000 := n5_
                     have HO_501001 := n6_
                     have HO_501002 := n7_
                     have BK476 := n8_
                     have BK489 := n9_
                     have BK500 := n10_
                     have HB := n11_
                     clear n0_ n1_ n2_ n3_ n4_ n5_ n6_ n7_ n8_ n9_ n10_ n11_
                     have p522 : 0 ≤ (x13_3 : Int) := of_decide_eq_true (by first | (with_reducible assumption) | assumption)
                     have q522 : x13_3 < (y510.length : Int) := of_decide_eq_true (by first | (with_reducible assumption) | assumption)
                     obtain ⟨ad522, A522_0, c522_0, e522, hx522_0, hl522_0, hi522_0⟩ := at_L7 (Kd.N_reads' HO_11.out).2.2 x13_3 p522 q522
                     cases e522
                     obtain ⟨ce522, hce522, hMe522, hcc522⟩ := Kd.N_get HO_11.out [] x13_3 p522 (by first | exact q522 | exact of_decide_eq_true (by first | (with_reducible assumption) | assumption) | (have e_ := (Kd.N_reads' HO_11.out).1; omega))
                     obtain ⟨ua522_0, uc522_0, rfl, ul522_0, ge522_0⟩ := Kd.FK_slice_open hMe522
                     have hv522_0 := hcc522 0 _ rfl
                     rw [Nat.add_zero, show ((Kd.slice 5 (Kd.int .u8))).sz = 1 from rfl, Nat.mul_one] at hv522_0
                     replace hv522_0 := Option.some.inj (hv522_0.symm.trans hx522_0)
                     injection hv522_0 with hva_ hvn_ hvc_
                     rw [hva_] at ge522_0
                     rw [hvc_] at ul522_0
                     have HL522_0 := Aside0.mk (show Kd.V (Kd.int .u8) 5 _ w.heap.size _ _ (rd_L7 y510 x13_3) from Kd.V_mk ul522_0 ge522_0)
                     clear hva_ hvn_ hvc_ ge522_0 ul522_0
                     clear hcc522 hce522
                     have HR522_0 := Aside0.mk hi522_0
                     have HC522_0 := Aside0.mk hl522_0
                     clear hi522_0 hl522_0
                     replace p522 := eq_true p522
                     replace q522 := eq_true q522
                     obtain ⟨Ao113, co113, eo113⟩ := Kd.N_slice HO_12.out
                     (first | subst eo113 | (injection eo113 with f1_ f2_ f3_; have f4_ := f1_.symm; have f5_ := f3_.symm; clear f1_ f2_ f3_; subst f4_; subst f5_))
                     have p523 : 0 ≤ (x13_3 : Int) := of_decide_eq_true (by first | (with_reducible assumption) | assumption)
                     have q523 : x13_3 < (y519.length : Int) := of_decide_eq_true (by first | (with_reducible assumption) | assumption)
                     obtain ⟨ad523, A523_0, c523_0, e523, hx523_0, hl523_0, hi523_0⟩ := at_L7 (Kd.N_reads' HO_12.out).2.2 x13_3 p523 q523
                     cases e523
                     obtain ⟨ce523, hce523, hMe523, hcc523⟩ := Kd.N_get HO_12.out [] x13_3 p523 (by first | exact q523 | exact of_decide_eq_true (by first | (with_reducible assumption) | assumption) | (have e_ := (Kd.N_reads' HO_12.out).1; omega))
                     obtain ⟨ua523_0, uc523_0, rfl, ul523_0, ge523_0⟩ := Kd.FK_slice_open hMe523
                     have hv523_0 := hcc523 0 _ rfl
                     rw [Nat.add_zero, show ((Kd.slice 5 (Kd.int .u8))).sz = 1 from rfl, Nat.mul_one] at hv523_0
                     replace hv523_0 := Option.some.inj (hv523_0.symm.trans hx523_0)
                     injection hv523_0 with hva_ hvn_ hvc_
                     rw [hva_] at ge523_0
                     rw [hvc_] at ul523_0
                     have HL523_0 := Aside0.mk (show Kd.V (Kd.int .u8) 5 _ w.heap.size _ _ (rd_L7 y519 x13_3) from Kd.V_mk ul523_0 ge523_0)
                     clear hva_ hvn_ hvc_ ge523_0 ul523_0
                     clear hcc523 hce523
                     have HR523_0 := Aside0.mk hi523_0
                     have HC523_0 := Aside0.mk hl523_0
                     clear hi523_0 hl523_0
                     replace p523 := eq_true p523
                     replace q523 := eq_true q523
                     have hcv114 := Kd.C_string (P := Try.prog) (A := A522_0) (c := c522_0) Try.underlying42 Try.underlying5 Try.underlying9 (by repeat (first | (with_reducible exact HR522_0.out) | (with_reducible refine Kd.C_alloc ?_ _) | (with_reducible refine Kd.C_drewN ?_ _) | (with_reducible refine Kd.C_drew ?_) | exact HR522_0.out))
                     have hcv115 := Kd.C_string (P := Try.prog) (A := A523_0) (c := c523_0) Try.underlying42 Try.underlying5 Try.underlying9 (by repeat (first | (with_reducible exact HR523_0.out) | (with_reducible refine Kd.C_alloc ?_ _) | (with_reducible refine Kd.C_drewN ?_ _) | (with_reducible refine Kd.C_drew ?_) | exact HR523_0.out))
                     refine start_ (n := 11) (S := fun w' => w'.cell? (ad522.add (x13_3).toNat) = some (.slice A522_0 (rd_L7 y510 x13_3).length c522_0) ∧ w'.cell? (ad523.add (x13_3).toNat) = some (.slice A523_0 (rd_L7 y519 x13_3).length c523_0) ∧ (convert 42 9 (.slice A522_0 (rd_L7 y510 x13_3).length c522_0)).run Try.prog w' = .ok (.string (strOfNums (rd_L7 y510 x13_3))) w' ∧ (convert 42 9 (.slice A523_0 (rd_L7 y519 x13_3).length c523_0)).run Try.prog w' = .ok (.string (strOfNums (rd_L7 y519 x13_3))) w') (ds := []) (bs 11 0) (by kernel_rfl) rfl rfl ⟨hx522_0, hx523_0, (Kd.C_string (P := Try.prog) (A := A522_0) (c := c522_0) Try.underlying42 Try.underlying5 Try.underlying9 (Kd.C_drew (by repeat (first | (with_reducible exact HR522_0.out) | (with_reducible refine Kd.C_alloc ?_ _) | (with_reducible refine Kd.C_drewN ?_ _) | (with_reducible refine Kd.C_drew ?_) | exact HR522_0.out)))), (Kd.C_string (P := Try.prog) (A := A523_0) (c := c523_0) Try.underlying42 Try.underlying5 Try.underlying9 (Kd.C_drew (by repeat (first | (with_reducible exact HR523_0.out) | (with_reducible refine Kd.C_alloc ?_ _) | (with_reducible refine Kd.C_drewN ?_ _) | (with_reducible refine Kd.C_drew ?_) | exact HR523_0.out))))⟩ (fun hHeld => ?_); refine with_tabW crossroadslaw17_ClassApart.tab16 crossroadslaw17_ClassApart.bits16 (fun HT_ HW_ => ?_)
                     generalize wr.drew = w112 at HO_11 HO_12 HO_490000 HO_490001 HO_490002 HO_501000 HO_501001 HO_501002 BK476 BK489 BK500 HB HL522_0 HL523_0 HR522_0 HR523_0 hx522_0 hx523_0 hHeld ⊢
                     refine pq_ 0 (some 80) (bs 11 1) rfl rfl (any_of HT_.out (by kernel_rfl)) ?_
                     refine pq_ 1 (some 81) (bs 11 3) rfl rfl (any_of HT_.out (by kernel_rfl)) ?_
                     refine pq_ 2 (some 82) (bs 11 7) rfl rfl (any_of HT_.out (by kernel_rfl)) ?_
                     refine pq_ 5 (some 85) (bs 11 39) rfl rfl (any_of HT_.out (by kernel_rfl)) ?_
                     refine pq_ 6 (some 86) (bs 11 103) rfl rfl (any_of HT_.out (by kernel_rfl)) ?_
                     refine pq_ 7 (some 87) (bs 11 231) rfl rfl (any_of HT_.out (by kernel_rfl)) ?_
                     refine tq_ 3 (some 83) (bs 11 239) rfl rfl (take_ofW HT_.out HW_.out (by kernel_rfl)) hHeld (Or.inl ⟨by rfl, by rintro w' ⟨s0, s1, s2, s3⟩; go_simp; with_reducible rfl⟩) ?_
                     refine tq_ 4 (some 84) (bs 11 255) rfl rfl (take_ofW HT_.out HW_.out (by kernel_rfl)) hHeld (Or.inl ⟨by rfl, by rintro w' ⟨s0, s1, s2, s3⟩; go_simp; with_reducible rfl⟩) ?_
                     refine tq_ 8 (some 88) (bs 11 511) rfl rfl (take_ofW HT_.out HW_.out (by kernel_rfl)) hHeld (Or.inl ⟨by rfl, by rintro w' ⟨s0, s1, s2, s3⟩; go_simp; with_reducible rfl⟩) ?_
                     refine tq_ 9 (some 89) (bs 11 1023) rfl rfl (take_ofW HT_.out HW_.out (by kernel_rfl)) hHeld (Or.inl ⟨by rfl, by rintro w' ⟨s0, s1, s2, s3⟩; go_simp; with_reducible rfl⟩) ?_
                     refine pq_ 10 (some 90) (bs 11 2047) rfl rfl (any_of HT_.out (by kernel_rfl)) ?_
                     refine done_ (done_of HT_.out (by kernel_rfl)) ?_
                     try go_wp2
                     have n0_ := Aside0.mk (Kd.N_drew HO_11.out)
                     have n1_ := Aside0.mk (Kd.N_drew HO_12.out)
                     have n2_ := Aside0.mk (Kd.V_drew HO_490000.out)
                     have n3_ := Aside0.mk (Kd.V_drew HO_490001.out)
                     have n4_ := Aside0.mk (Kd.V_drew HO_490002.out)
                     have n5_ := Aside0.mk (Kd.V_drew HO_501000.out)
                     have n6_ := Aside0.mk (Kd.V_drew HO_501001.out)
                     have n7_ := Aside0.mk (Kd.V_drew HO_501002.out)
                     have n8_ := Aside0.mk (Kd.V_drew HL522_0.out)
                     have n9_ := Aside0.mk (Kd.V_drew HL523_0.out)
                     have n10_ := Aside0.mk (blk_drew BK476.out)
                     have n11_ := Aside0.mk (blk_drew BK489.out)
                     have n12_ := Aside0.mk (blk_drew BK500.out)
                     have n13_ := Aside0.mk (below_drew1 HB.out)
                     clear HO_11
                     clear HO_12
                     clear HO_490000
                     clear HO_490001
                     clear HO_490002
                     clear HO_501000
                     clear HO_501001
                     clear HO_501002
                     clear HL522_0
                     clear HL523_0
                     clear BK476
                     clear BK489
                     clear BK500
                     clear HB
                     have HO_11 := n0_
                     have HO_12 := n1_
                     have HO_490000 := n2_
                     have HO_490001 := n3_
                     have HO_490002 := n4_
                     have HO_501000 := n5_
                     have HO_501001 := n6_
                     have HO_501002 := n7_
                     have HL522_0 := n8_
                     have HL523_0 := n9_
                     have BK476 := n10_
                     have BK489 := n11_
                     have BK500 := n12_
                     have HB := n13_
                     clear n0_ n1_ n2_ n3_ n4_ n5_ n6_ n7_ n8_ n9_ n10_ n11_ n12_ n13_
                     have p524 : 0 ≤ (x13_3 : Int) := of_decide_eq_true (by first | (with_reducible assumption) | assumption)
                     have q524 : x13_3 < (y510.length : Int) := of_decide_eq_true (by first | (with_reducible assumption) | assumption)
                     obtain ⟨ad524, A524_0, c524_0, e524, hx524_0, hl524_0, hi524_0⟩ := at_L7 (Kd.N_reads' HO_11.out).2.2 x13_3 p524 q524
                     obtain rfl : ad522 = ad524 := (by injection e524)
                     obtain ⟨ce524, hce524, hMe524, hcc524⟩ := Kd.N_get HO_11.out [] x13_3 p524 (by first | exact q524 | exact of_decide_eq_true (by first | (with_reducible assumption) | assumption) | (have e_ := (Kd.N_reads' HO_11.out).1; omega))
                     obtain ⟨ua524_0, uc524_0, rfl, ul524_0, ge524_0⟩ := Kd.FK_slice_open hMe524
                     have hv524_0 := hcc524 0 _ rfl
                     rw [Nat.add_zero, show ((Kd.slice 5 (Kd.int .u8))).sz = 1 from rfl, Nat.mul_one] at hv524_0
                     replace hv524_0 := Option.some.inj (hv524_0.symm.trans hx524_0)
                     injection hv524_0 with hva_ hvn_ hvc_
                     rw [hva_] at ge524_0
                     rw [hvc_] at ul524_0
                     have HL524_0 := Aside0.mk (show Kd.V (Kd.int .u8) 5 _ w.heap.size _ _ (rd_L7 y510 x13_3) from Kd.V_mk ul524_0 ge524_0)
                     clear hva_ hvn_ hvc_ ge524_0 ul524_0
                     clear hcc524 hce524
                     have HR524_0 := Aside0.mk hi524_0
                     have HC524_0 := Aside0.mk hl524_0
                     clear hi524_0 hl524_0
                     replace p524 := eq_true p524
                     replace q524 := eq_true q524
                     (try clear hx522_0)
                     (try clear hx522_0)
                     (try clear hx522_0)
                     (try clear hx522_0)
                     (try clear hx522_0)
                     (try clear hx522_0)
                     (try clear hx522_0)
                     (try clear hx522_0)
                     (try clear hx522_0)
                     (try clear hx522_0)
                     (try clear hx522_0)
                     (try clear hx522_0)
                     (try clear hx522_0)
                     (try clear hx522_0)
                     have p525 : 0 ≤ (x13_3 : Int) := of_decide_eq_true (by first | (with_reducible assumption) | assumption)
                     have q525 : x13_3 < (y519.length : Int) := of_decide_eq_true (by first | (with_reducible assumption) | assumption)
                     obtain ⟨ad525, A525_0, c525_0, e525, hx525_0, hl525_0, hi525_0⟩ := at_L7 (Kd.N_reads' HO_12.out).2.2 x13_3 p525 q525
                     obtain rfl : ad523 = ad525 := (by injection e525)
                     obtain ⟨ce525, hce525, hMe525, hcc525⟩ := Kd.N_get HO_12.out [] x13_3 p525 (by first | exact q525 | exact of_decide_eq_true (by first | (with_reducible assumption) | assumption) | (have e_ := (Kd.N_reads' HO_12.out).1; omega))
                     obtain ⟨ua525_0, uc525_0, rfl, ul525_0, ge525_0⟩ := Kd.FK_slice_open hMe525
                     have hv525_0 := hcc525 0 _ rfl
                     rw [Nat.add_zero, show ((Kd.slice 5 (Kd.int .u8))).sz = 1 from rfl, Nat.mul_one] at hv525_0
                     replace hv525_0 := Option.some.inj (hv525_0.symm.trans hx525_0)
                     injection hv525_0 with hva_ hvn_ hvc_
                     rw [hva_] at ge525_0
                     rw [hvc_] at ul525_0
                     have HL525_0 := Aside0.mk (show Kd.V (Kd.int .u8) 5 _ w.heap.size _ _ (rd_L7 y519 x13_3) from Kd.V_mk ul525_0 ge525_0)
                     clear hva_ hvn_ hvc_ ge525_0 ul525_0
                     clear hcc525 hce525
                     have HR525_0 := Aside0.mk hi525_0
                     have HC525_0 := Aside0.mk hl525_0
                     clear hi525_0 hl525_0
                     replace p525 := eq_true p525
                     replace q525 := eq_true q525
                     (try clear hx523_0)
                     (try clear hx523_0)
                     (try clear hx523_0)
                     (try clear hx523_0)
                     (try clear hx523_0)
                     (try clear hx523_0)
                     (try clear hx523_0)
                     (try clear hx523_0)
                     (try clear hx523_0)
                     (try clear hx523_0)
                     (try clear hx523_0)
                     (try clear hx523_0)
                     (try clear hx523_0)
                     (try clear hx523_0)
                     have p526 : 0 ≤ (x13_3 : Int) := of_decide_eq_true (by first | (with_reducible assumption) | assumption)
                     have q526 : x13_3 < (y510.length : Int) := of_decide_eq_true (by first | (with_reducible assumption) | assumption)
                     obtain ⟨ad526, A526_0, c526_0, e526, hx526_0, hl526_0, hi526_0⟩ := at_L7 (Kd.N_reads' HO_11.out).2.2 x13_3 p526 q526
                     obtain rfl : ad522 = ad526 := (by injection e526)
                     obtain ⟨ce526, hce526, hMe526, hcc526⟩ := Kd.N_get HO_11.out [] x13_3 p526 (by first | exact q526 | exact of_decide_eq_true (by first | (with_reducible assumption) | assumption) | (have e_ := (Kd.N_reads' HO_11.out).1; omega))
                     obtain ⟨ua526_0, uc526_0, rfl, ul526_0, ge526_0⟩ := Kd.FK_slice_open hMe526
                     have hv526_0 := hcc526 0 _ rfl
                     rw [Nat.add_zero, show ((Kd.slice 5 (Kd.int .u8))).sz = 1 from rfl, Nat.mul_one] at hv526_0
                     replace hv526_0 := Option.some.inj (hv526_0.symm.trans hx526_0)
                     injection hv526_0 with hva_ hvn_ hvc_
                     rw [hva_] at ge526_0
                     rw [hvc_] at ul526_0
                     have HL526_0 := Aside0.mk (show Kd.V (Kd.int .u8) 5 _ w.heap.size _ _ (rd_L7 y510 x13_3) from Kd.V_mk ul526_0 ge526_0)
                     clear hva_ hvn_ hvc_ ge526_0 ul526_0
                     clear hcc526 hce526
                     have HR526_0 := Aside0.mk hi526_0
                     have HC526_0 := Aside0.mk hl526_0
                     clear hi526_0 hl526_0
                     replace p526 := eq_true p526
                     replace q526 := eq_true q526
                     have ea_ := Option.some.inj (hx524_0.symm.trans hx526_0)
                     injection ea_ with ea_ en_ ec_
                     subst ea_
                     subst ec_
                     clear en_
                     have p527 : 0 ≤ (x13_3 : Int) := of_decide_eq_true (by first | (with_reducible assumption) | assumption)
                     have q527 : x13_3 < (y519.length : Int) := of_decide_eq_true (by first | (with_reducible assumption) | assumption)
                     obtain ⟨ad527, A527_0, c527_0, e527, hx527_0, hl527_0, hi527_0⟩ := at_L7 (Kd.N_reads' HO_12.out).2.2 x13_3 p527 q527
                     obtain rfl : ad523 = ad527 := (by injection e527)
                     obtain ⟨ce527, hce527, hMe527, hcc527⟩ := Kd.N_get HO_12.out [] x13_3 p527 (by first | exact q527 | exact of_decide_eq_true (by first | (with_reducible assumption) | assumption) | (have e_ := (Kd.N_reads' HO_12.out).1; omega))
                     obtain ⟨ua527_0, uc527_0, rfl, ul527_0, ge527_0⟩ := Kd.FK_slice_open hMe527
                     have hv527_0 := hcc527 0 _ rfl
                     rw [Nat.add_zero, show ((Kd.slice 5 (Kd.int .u8))).sz = 1 from rfl, Nat.mul_one] at hv527_0
                     replace hv527_0 := Option.some.inj (hv527_0.symm.trans hx527_0)
                     injection hv527_0 with hva_ hvn_ hvc_
                     rw [hva_] at ge527_0
                     rw [hvc_] at ul527_0
                     have HL527_0 := Aside0.mk (show Kd.V (Kd.int .u8) 5 _ w.heap.size _ _ (rd_L7 y519 x13_3) from Kd.V_mk ul527_0 ge527_0)
                     clear hva_ hvn_ hvc_ ge527_0 ul527_0
                     clear hcc527 hce527
                     have HR527_0 := Aside0.mk hi527_0
                     have HC527_0 := Aside0.mk hl527_0
                     clear hi527_0 hl527_0
                     replace p527 := eq_true p527
                     replace q527 := eq_true q527
                     have ea_ := Option.some.inj (hx525_0.symm.trans hx527_0)
                     injection ea_ with ea_ en_ ec_
                     subst ea_
                     subst ec_
                     clear en_
                     refine start_ (n := 38) (S := fun w' => w'.cell? (ad522.add (x13_3).toNat) = some (.slice A524_0 (rd_L7 y510 x13_3).length c524_0) ∧ w'.cell? (ad523.add (x13_3).toNat) = some (.slice A525_0 (rd_L7 y519 x13_3).length c525_0) ∧ w'.cell? (ad522.add (x13_3).toNat) = some (.slice A524_0 (rd_L7 y510 x13_3).length c524_0) ∧ w'.cell? (ad523.add (x13_3).toNat) = some (.slice A525_0 (rd_L7 y519 x13_3).length c525_0)) (ds := []) (bs 38 0) (by kernel_rfl) rfl rfl ⟨hx524_0, hx525_0, hx526_0, hx527_0⟩ (fun hHeld => ?_); refine with_tabW crossroadslaw17_ClassApart.tab17 crossroadslaw17_ClassApart.bits17 (fun HT_ HW_ => ?_)
                     generalize w112.drew = w117 at HO_11 HO_12 HO_490000 HO_490001 HO_490002 HO_501000 HO_501001 HO_501002 HL522_0 HL523_0 BK476 BK489 BK500 HB HL524_0 HL525_0 HL526_0 HL527_0 HR524_0 HR525_0 HR526_0 HR527_0 hx524_0 hx525_0 hx526_0 hx527_0 hHeld ⊢
                     refine pq_ 0 (some 91) (bs 38 1) rfl rfl (any_of HT_.out (by kernel_rfl)) ?_
                     refine pq_ 1 (some 92) (bs 38 3) rfl rfl (any_of HT_.out (by kernel_rfl)) ?_
                     refine pq_ 2 (some 93) (bs 38 7) rfl rfl (any_of HT_.out (by kernel_rfl)) ?_
                     refine pq_ 5 (some 96) (bs 38 39) rfl rfl (any_of HT_.out (by kernel_rfl)) ?_
                     refine pq_ 6 (some 97) (bs 38 103) rfl rfl (any_of HT_.out (by kernel_rfl)) ?_
                     refine pq_ 7 (some 98) (bs 38 231) rfl rfl (any_of HT_.out (by kernel_rfl)) ?_
                     refine tq_ 3 (some 94) (bs 38 239) rfl rfl (take_ofW HT_.out HW_.out (by kernel_rfl)) hHeld (Or.inl ⟨by rfl, by rintro w' ⟨s0, s1, s2, s3⟩; go_simp; with_reducible rfl⟩) ?_
                     refine pq_ 4 (some 95) (bs 38 255) rfl rfl (any_of HT_.out (by kernel_rfl)) ?_
                     refine tq_ 8 (some 99) (bs 38 511) rfl rfl (take_ofW HT_.out HW_.out (by kernel_rfl)) hHeld (Or.inl ⟨by rfl, by rintro w' ⟨s0, s1, s2, s3⟩; go_simp; with_reducible rfl⟩) ?_
                     refine pq_ 9 (some 100) (bs 38 1023) rfl rfl (any_of HT_.out (by kernel_rfl)) ?_
                     refine pq_ 10 (some 101) (bs 38 2047) rfl rfl (any_of HT_.out (by kernel_rfl)) ?_
                     refine pq_ 11 (some 102) (bs 38 4095) rfl rfl (any_of HT_.out (by kernel_rfl)) ?_
                     refine pq_ 12 (some 103) (bs 38 8191) rfl rfl (any_of HT_.out (by kernel_rfl)) ?_
                     refine pq_ 13 (some 104) (bs 38 16383) rfl rfl (any_of HT_.out (by kernel_rfl)) ?_
                     refine pq_ 14 (some 105) (bs 38 32767) rfl rfl (any_of HT_.out (by kernel_rfl)) ?_
                     refine pq_ 17 (some 108) (bs 38 163839) rfl rfl (any_of HT_.out (by kernel_rfl)) ?_
                     refine pq_ 18 (some 109) (bs 38 425983) rfl rfl (any_of HT_.out (by kernel_rfl)) ?_
                     refine pq_ 19 (some 110) (bs 38 950271) rfl rfl (any_of HT_.out (by kernel_rfl)) ?_
                     refine tq_ 15 (some 106) (bs 38 983039) rfl rfl (take_ofW HT_.out HW_.out (by kernel_rfl)) hHeld (Or.inl ⟨by rfl, by rintro w' ⟨s0, s1, s2, s3⟩; go_simp; with_reducible rfl⟩) ?_
                     refine pq_ 16 (some 107) (bs 38 1048575) rfl rfl (any_of HT_.out (by kernel_rfl)) ?_
                     refine tq_ 20 (some 111) (bs 38 2097151) rfl rfl (take_ofW HT_.out HW_.out (by kernel_rfl)) hHeld (Or.inl ⟨by rfl, by rintro w' ⟨s0, s1, s2, s3⟩; go_simp; with_reducible rfl⟩) ?_
                     refine pq_ 21 (some 112) (bs 38 4194303) rfl rfl (any_of HT_.out (by kernel_rfl)) ?_
                     refine pq_ 22 (some 113) (bs 38 8388607) rfl rfl (any_of HT_.out (by kernel_rfl)) ?_
                     refine pq_ 23 (some 114) (bs 38 16777215) rfl rfl (any_of HT_.out (by kernel_rfl)) ?_
                     refine pu_ 24 (some 115) (bs 38 33554431) rfl rfl (any_of HT_.out (by kernel_rfl)) ?_
                     refine pu_ 25 (some 116) (bs 38 67108863) rfl rfl (any_of HT_.out (by kernel_rfl)) ?_
                     refine pu_ 26 (some 117) (bs 38 134217727) rfl rfl (any_of HT_.out (by kernel_rfl)) ?_
                     refine pu_ 27 (some 118) (bs 38 268435455) rfl rfl (any_of HT_.out (by kernel_rfl)) ?_
                     refine pu_ 28 (some 119) (bs 38 536870911) rfl rfl (any_of HT_.out (by kernel_rfl)) ?_
                     refine pu_ 29 (some 120) (bs 38 1073741823) rfl rfl (any_of HT_.out (by kernel_rfl)) ?_
                     refine pu_ 30 (some 121) (bs 38 2147483647) rfl rfl (any_of HT_.out (by kernel_rfl)) ?_
                     refine pu_ 31 (some 122) (bs 38 4294967295) rfl rfl (any_of HT_.out (by kernel_rfl)) ?_
                     refine pu_ 32 (some 123) (bs 38 8589934591) rfl rfl (any_of HT_.out (by kernel_rfl)) ?_
                     refine pu_ 33 (some 124) (bs 38 17179869183) rfl rfl (any_of HT_.out (by kernel_rfl)) ?_
                     refine pu_ 34 (some 125) (bs 38 34359738367) rfl rfl (any_of HT_.out (by kernel_rfl)) ?_
                     refine pq_ 35 (some 126) (bs 38 68719476735) rfl rfl (any_of HT_.out (by kernel_rfl)) ?_
                     refine pq_ 36 (some 127) (bs 38 137438953471) rfl rfl (any_of HT_.out (by kernel_rfl)) ?_
                     refine pq_ 37 (some 14) (bs 38 274877906943) rfl rfl (any_of HT_.out (by kernel_rfl)) ?_
                     refine done_ (done_of HT_.out (by kernel_rfl)) ?_
                     try go_wp2
                     go_ret
                     exact ⟨by first | rfl | (simp [errW_none, errW_some] <;> rfl) | (simp [*, errW_none, errW_some] <;> rfl), by repeat (first | (with_reducible first | exact HB.out | apply below_alloc | apply pw_below_drewN | apply below_drew1 | refine below_set ?_ GE476.out | refine below_set ?_ GE489.out | refine below_set ?_ GE500.out) | exact HB.out)⟩
                 ·rw [if_neg c84] at H
                  exact absurd H (by simp)
                ·rw [if_neg c83] at H
                 exact absurd H (by simp)
               ·rw [if_neg c82] at H
                have c82b0 : decide (x13_3 < (y510.length : Int)) = false := decide_eq_false c82
                clear c82
                have H' := Aside0.mk H
                clear H
                obtain ⟨Ao118, co118, eo118⟩ := Kd.N_slice HO_11.out
                subst eo118
                go_wp2
                go_loopg [15] k3 (fun kq v15 w' => ∃ (x15_4 : Int), v15 = .int .i64 x15_4 ∧ Aside0 (crossroadslaw17_ClassApart.l1 kq a1 a2 x15_4 t479 t482 t485 t490 t493 t496 = some r) ∧ Aside0 (kq ≤ k3) ∧ Aside0 (Kd.V (Kd.slice 5 (Kd.int .u8)) 42 w' w.heap.size (fun k_ => k_ ≠ gb476 ∧ k_ ≠ gb489 ∧ k_ ≠ gb500) (.slice Ao18 t479.length co18) t479) ∧ Aside0 (Kd.V (Kd.slice 5 (Kd.int .u8)) 42 w' w.heap.size (fun k_ => k_ ≠ gb476 ∧ k_ ≠ gb489 ∧ k_ ≠ gb500) (.slice Ao21 t482.length co21) t482) ∧ Aside0 (Kd.V Kd.bool 4 w' w.heap.size (fun k_ => k_ ≠ gb476 ∧ k_ ≠ gb489 ∧ k_ ≠ gb500) (.slice Ao22 t485.length co22) t485) ∧ Aside0 (Kd.V (Kd.slice 5 (Kd.int .u8)) 42 w' w.heap.size (fun k_ => k_ ≠ gb476 ∧ k_ ≠ gb489 ∧ k_ ≠ gb500) (.slice Ao26 t490.length co26) t490) ∧ Aside0 (Kd.V (Kd.slice 5 (Kd.int .u8)) 42 w' w.heap.size (fun k_ => k_ ≠ gb476 ∧ k_ ≠ gb489 ∧ k_ ≠ gb500) (.slice Ao30 t493.length co30) t493) ∧ Aside0 (Kd.V Kd.bool 4 w' w.heap.size (fun k_ => k_ ≠ gb476 ∧ k_ ≠ gb489 ∧ k_ ≠ gb500) (.slice Ao31 t496.length co31) t496) ∧ Aside0 (w'.heap[gb476]? = some (.cells #[(.slice A0_0 l0_0.length c0_0), (.slice A0_1 l0_1.length c0_1), .int .i64 a0_2, .int .i64 a0_3, .int .i64 a0_4] 25 (0, 0))) ∧ Aside0 (w'.heap[gb489]? = some (.cells #[(.slice Ao18 t479.length co18), (.slice Ao21 t482.length co21), (.slice Ao22 t485.length co22)] 31 (0, 0))) ∧ Aside0 (w'.heap[gb500]? = some (.cells #[(.slice Ao26 t490.length co26), (.slice Ao30 t493.length co30), (.slice Ao31 t496.length co31)] 31 (0, 0))) ∧ Aside0 (Below w.heap.size w w'))
                case atStart => exact ⟨(0), (by first | rfl | (simp; done) | (simp [*]; done)), H', ⟨Nat.le_refl _⟩, ⟨by (with_reducible repeat (first | apply Kd.V_alloc | apply Kd.V_drewN | apply Kd.V_drew)); exact Kd.V_mono HO_490000.out (fun _ hk => ⟨hk.2.2.1, ⟨hk.2.2.2.1, hk.2.2.2.2⟩⟩)⟩, ⟨by (with_reducible repeat (first | apply Kd.V_alloc | apply Kd.V_drewN | apply Kd.V_drew)); exact Kd.V_mono HO_490001.out (fun _ hk => ⟨hk.2.2.1, ⟨hk.2.2.2.1, hk.2.2.2.2⟩⟩)⟩, ⟨by (with_reducible repeat (first | apply Kd.V_alloc | apply Kd.V_drewN | apply Kd.V_drew)); exact Kd.V_mono HO_490002.out (fun _ hk => ⟨hk.2.2.1, ⟨hk.2.2.2.1, hk.2.2.2.2⟩⟩)⟩, ⟨by (with_reducible repeat (first | apply Kd.V_alloc | apply Kd.V_drewN | apply Kd.V_drew)); exact Kd.V_mono HO_501000.out (fun _ hk => ⟨hk.2.2.1, ⟨hk.2.2.2.1, hk.2.2.2.2⟩⟩)⟩, ⟨by (with_reducible repeat (first | apply Kd.V_alloc | apply Kd.V_drewN | apply Kd.V_drew)); exact Kd.V_mono HO_501001.out (fun _ hk => ⟨hk.2.2.1, ⟨hk.2.2.2.1, hk.2.2.2.2⟩⟩)⟩, ⟨by (with_reducible repeat (first | apply Kd.V_alloc | apply Kd.V_drewN | apply Kd.V_drew)); exact Kd.V_mono HO_501002.out (fun _ hk => ⟨hk.2.2.1, ⟨hk.2.2.2.1, hk.2.2.2.2⟩⟩)⟩, ⟨by (with_reducible repeat (first | refine blk_drewN ?_ _ | refine blk_drew ?_ | refine blk_alloc ?_ _)); exact BK476.out⟩, ⟨by (with_reducible repeat (first | refine blk_drewN ?_ _ | refine blk_drew ?_ | refine blk_alloc ?_ _)); exact BK489.out⟩, ⟨by (with_reducible repeat (first | refine blk_drewN ?_ _ | refine blk_drew ?_ | refine blk_alloc ?_ _)); exact BK500.out⟩, ⟨by repeat (first | (with_reducible first | exact HB.out | apply below_alloc | apply pw_below_drewN | apply below_drew1 | refine below_set ?_ GE476.out | refine below_set ?_ GE489.out | refine below_set ?_ GE500.out) | exact HB.out)⟩⟩
                case round =>
                 clear H'
                 try clear hcv1
                 try clear p2
                 try clear c5
                 try clear p5
                 try clear q5
                 try clear hx5
                 try clear c8
                 try clear hcv11
                 try clear c52
                 try clear p52
                 try clear q52
                 try clear hx52
                 try clear c82
                 try clear c82b0
                 try clear c83
                 try clear c84
                 try clear hcv114
                 try clear hcv115
                 try clear hx522_0
                 try clear hx523_0
                 try clear hx524_0
                 try clear hx525_0
                 try clear hx526_0
                 try clear hx527_0
                 try clear p522
                 try clear p523
                 try clear p524
                 try clear p525
                 try clear p526
                 try clear p527
                 try clear q522
                 try clear q523
                 try clear q524
                 try clear q525
                 try clear q526
                 try clear q527
                 obtain ⟨x15_4, rfl, HA, HK4, HO_490000, HO_490001, HO_490002, HO_501000, HO_501001, HO_501002, BK476, BK489, BK500, HB⟩ := hrel
                 cases gk with
                 | zero => exact absurd HA.out (by simp [crossroadslaw17_ClassApart.l1])
                 | succ k4 =>
                  have H := HA.out
                  clear HA
                  simp only [crossroadslaw17_ClassApart.l1] at H
                  by_cases c119 : x15_4 < (t485.length : Int)
                  ·rw [if_pos c119] at H
                   have c119b0 : decide (x15_4 < (t485.length : Int)) = true := decide_eq_true c119
                   clear c119
                   by_cases c120 : 0 ≤ x15_4
                   ·rw [if_pos c120] at H
                    have c120b0 : decide (0 ≤ x15_4) = true := decide_eq_true c120
                    clear c120
                    by_cases c121 : x15_4 < (t496.length : Int)
                    ·rw [if_pos c121] at H
                     have c121b0 : decide (x15_4 < (t496.length : Int)) = true := decide_eq_true c121
                     clear c121
                     by_cases c122 : ((rdOf false t485 x15_4) != (rdOf false t496 x15_4)) = true
                     ·rw [if_pos c122] at H
                      have c122b0 : ((rdOf false t485 x15_4) != (rdOf false t496 x15_4)) = true := c122
                      (try (have c122b1 : decide ((rdOf false t485 x15_4) = (rdOf false t496 x15_4)) = false := by simpa using c122))
                      (try (have c122b2 : ((rdOf false t485 x15_4) == (rdOf false t496 x15_4)) = false := by simpa using c122))
                      (try (have c122b3 : ¬ ((rdOf false t485 x15_4) = (rdOf false t496 x15_4)) := by simpa using c122))
                      clear c122
                      obtain rfl := Option.some.inj H
                      have hnb123 := NB489_476.out
                      have hnc123 := NB476_489.out
                      have hnb124 := NB489_500.out
                      have hnc124 := NB500_489.out
                      have hcz125_0 : wr.cell? ⟨gb489, 0, none⟩ = some (.slice Ao18 t479.length co18) := (blk_cell BK489.out 0).trans rfl
                      have hcz125_1 : wr.cell? ⟨gb489, 1, none⟩ = some (.slice Ao21 t482.length co21) := (blk_cell BK489.out 1).trans rfl
                      have hcz125_2 : wr.cell? ⟨gb489, 2, none⟩ = some (.slice Ao22 t485.length co22) := (blk_cell BK489.out 2).trans rfl
                      have hfz125_0 := blk_frozen BK489.out 0
                      have hfz125_1 := blk_frozen BK489.out 1
                      have hfz125_2 := blk_frozen BK489.out 2
                      try go_wp2
                      have n0_ := Aside0.mk (Kd.V_drew HO_490000.out)
                      have n1_ := Aside0.mk (Kd.V_drew HO_490001.out)
                      have n2_ := Aside0.mk (Kd.V_drew HO_490002.out)
                      have n3_ := Aside0.mk (Kd.V_drew HO_501000.out)
                      have n4_ := Aside0.mk (Kd.V_drew HO_501001.out)
                      have n5_ := Aside0.mk (Kd.V_drew HO_501002.out)
                      have n6_ := Aside0.mk (blk_drew BK476.out)
                      have n7_ := Aside0.mk (blk_drew BK489.out)
                      have n8_ := Aside0.mk (blk_drew BK500.out)
                      have n9_ := Aside0.mk (below_drew1 HB.out)
                      clear HO_490000
                      clear HO_490001
                      clear HO_490002
                      clear HO_501000
                      clear HO_501001
                      clear HO_501002
                      clear BK476
                      clear BK489
                      clear BK500
                      clear HB
                      have HO_490000 := n0_
                      have HO_490001 := n1_
                      have HO_490002 := n2_
                      have HO_501000 := n3_
                      have HO_501001 := n4_
                      have HO_501002 := n5_
                      have BK476 := n6_
                      have BK489 := n7_
                      have BK500 := n8_
                      have HB := n9_
                      clear n0_ n1_ n2_ n3_ n4_ n5_ n6_ n7_ n8_ n9_
                      have p530 : 0 ≤ (x15_4 : Int) := of_decide_eq_true (by first | (with_reducible assumption) | assumption)
                      have q530 : x15_4 < (t485.length : Int) := of_decide_eq_true (by first | (with_reducible assumption) | assumption)
                      obtain ⟨ad530, e530, hx530_0⟩ := Kd.at_bool (Kd.V_reads' HO_490002.out).2.2 x15_4 p530 q530
                      cases e530
                      replace p530 := eq_true p530
                      replace q530 := eq_true q530
                      have p531 : 0 ≤ (x15_4 : Int) := of_decide_eq_true (by first | (with_reducible assumption) | assumption)
                      have q531 : x15_4 < (t496.length : Int) := of_decide_eq_true (by first | (with_reducible assumption) | assumption)
                      obtain ⟨ad531, e531, hx531_0⟩ := Kd.at_bool (Kd.V_reads' HO_501002.out).2.2 x15_4 p531 q531
                      cases e531
                      replace p531 := eq_true p531
                      replace q531 := eq_true q531
                      refine start_ (n := 11) (S := fun w' => w'.cell? ⟨gb489, 0, none⟩ = some (.slice Ao18 t479.length co18) ∧ w'.cell? ⟨gb489, 1, none⟩ = some (.slice Ao21 t482.length co21) ∧ w'.cell? ⟨gb489, 2, none⟩ = some (.slice (some ad530) t485.length co22) ∧ w'.cell? ⟨gb500, 0, none⟩ = some (.slice Ao26 t490.length co26) ∧ w'.cell? ⟨gb500, 1, none⟩ = some (.slice Ao30 t493.length co30) ∧ w'.cell? ⟨gb500, 2, none⟩ = some (.slice (some ad531) t496.length co31) ∧ w'.cell? (ad530.add (x15_4).toNat) = some (.bool (rdOf false t485 x15_4)) ∧ w'.cell? (ad531.add (x15_4).toNat) = some (.bool (rdOf false t496 x15_4))) (ds := []) (bs 11 0) (by kernel_rfl) rfl rfl ⟨(blk_cell BK489.out 0).trans rfl, (blk_cell BK489.out 1).trans rfl, (blk_cell BK489.out 2).trans rfl, (blk_cell BK500.out 0).trans rfl, (blk_cell BK500.out 1).trans rfl, (blk_cell BK500.out 2).trans rfl, hx530_0, hx531_0⟩ (fun hHeld => ?_); refine with_tabW crossroadslaw17_ClassApart.tab22 crossroadslaw17_ClassApart.bits22 (fun HT_ HW_ => ?_)
                      generalize wr.drew = w126 at HO_490000 HO_490001 HO_490002 HO_501000 HO_501001 HO_501002 BK476 BK489 BK500 HB hx530_0 hx531_0 hHeld ⊢
                      refine pq_ 0 (some 140) (bs 11 1) rfl rfl (any_of HT_.out (by kernel_rfl)) ?_
                      refine pq_ 2 (some 142) (bs 11 5) rfl rfl (any_of HT_.out (by kernel_rfl)) ?_
                      refine pq_ 5 (some 145) (bs 11 37) rfl rfl (any_of HT_.out (by kernel_rfl)) ?_
                      refine pq_ 7 (some 147) (bs 11 165) rfl rfl (any_of HT_.out (by kernel_rfl)) ?_
                      refine tq_ 1 (some 141) (bs 11 167) rfl rfl (take_ofW HT_.out HW_.out (by kernel_rfl)) hHeld (Or.inl ⟨by rfl, by rintro w' ⟨s0, s1, s2, s3, s4, s5, s6, s7⟩; go_simp; with_reducible rfl⟩) ?_
                      refine pq_ 3 (some 143) (bs 11 175) rfl rfl (any_of HT_.out (by kernel_rfl)) ?_
                      refine tq_ 4 (some 144) (bs 11 191) rfl rfl (take_ofW HT_.out HW_.out (by kernel_rfl)) hHeld (Or.inl ⟨by rfl, by rintro w' ⟨s0, s1, s2, s3, s4, s5, s6, s7⟩; go_simp; with_reducible rfl⟩) ?_
                      refine tq_ 6 (some 146) (bs 11 255) rfl rfl (take_ofW HT_.out HW_.out (by kernel_rfl)) hHeld (Or.inl ⟨by rfl, by rintro w' ⟨s0, s1, s2, s3, s4, s5, s6, s7⟩; go_simp; with_reducible rfl⟩) ?_
                      refine pq_ 8 (some 148) (bs 11 511) rfl rfl (any_of HT_.out (by kernel_rfl)) ?_
                      refine tq_ 9 (some 149) (bs 11 1023) rfl rfl (take_ofW HT_.out HW_.out (by kernel_rfl)) hHeld (Or.inl ⟨by rfl, by rintro w' ⟨s0, s1, s2, s3, s4, s5, s6, s7⟩; go_simp; with_reducible rfl⟩) ?_
                      refine pq_ 10 (some 150) (bs 11 2047) rfl rfl (any_of HT_.out (by kernel_rfl)) ?_
                      refine done_ (done_of HT_.out (by kernel_rfl)) ?_
                      have hnb127 := NB500_476.out
                      have hnc127 := NB476_500.out
                      have hcz128_0 : w126.cell? ⟨gb500, 0, none⟩ = some (.slice Ao26 t490.length co26) := (blk_cell BK500.out 0).trans rfl
                      have hcz128_1 : w126.cell? ⟨gb500, 1, none⟩ = some (.slice Ao30 t493.length co30) := (blk_cell BK500.out 1).trans rfl
                      have hcz128_2 : w126.cell? ⟨gb500, 2, none⟩ = some (.slice (some ad531) t496.length co31) := (blk_cell BK500.out 2).trans rfl
                      have hfz128_0 := blk_frozen BK500.out 0
                      have hfz128_1 := blk_frozen BK500.out 1
                      have hfz128_2 := blk_frozen BK500.out 2
                      have p532 : 0 ≤ (x15_4 : Int) := of_decide_eq_true (by first | (with_reducible assumption) | assumption)
                      have q532 : x15_4 < (t496.length : Int) := of_decide_eq_true (by first | (with_reducible assumption) | assumption)
                      obtain ⟨ad532, e532, hx532_0⟩ := Kd.at_bool (Kd.V_reads' HO_501002.out).2.2 x15_4 p532 q532
                      obtain rfl : ad531 = ad532 := (by injection e532)
                      replace p532 := eq_true p532
                      replace q532 := eq_true q532
                      try go_wp2
                      go_ret
                      exact ⟨by first | rfl | (simp [errW_none, errW_some] <;> rfl) | (simp [*, errW_none, errW_some] <;> rfl), by repeat (first | (with_reducible first | exact HB.out | apply below_alloc | apply pw_below_drewN | apply below_drew1 | refine below_set ?_ GE476.out | refine below_set ?_ GE489.out | refine below_set ?_ GE500.out) | exact HB.out)⟩
                     ·rw [if_neg c122] at H
                      have c122b0 : ((rdOf false t485 x15_4) != (rdOf false t496 x15_4)) = false := by simpa using c122
                      (try (have c122b1 : decide ((rdOf false t485 x15_4) = (rdOf false t496 x15_4)) = true := by simpa using c122))
                      (try (have c122b2 : ((rdOf false t485 x15_4) == (rdOf false t496 x15_4)) = true := by simpa using c122))
                      clear c122
                      have H' := Aside0.mk H
                      clear H
                      have hnb129 := NB489_476.out
                      have hnc129 := NB476_489.out
                      have hnb130 := NB489_500.out
                      have hnc130 := NB500_489.out
                      have hcz131_0 : wr.cell? ⟨gb489, 0, none⟩ = some (.slice Ao18 t479.length co18) := (blk_cell BK489.out 0).trans rfl
                      have hcz131_1 : wr.cell? ⟨gb489, 1, none⟩ = some (.slice Ao21 t482.length co21) := (blk_cell BK489.out 1).trans rfl
                      have hcz131_2 : wr.cell? ⟨gb489, 2, none⟩ = some (.slice Ao22 t485.length co22) := (blk_cell BK489.out 2).trans rfl
                      have hfz131_0 := blk_frozen BK489.out 0
                      have hfz131_1 := blk_frozen BK489.out 1
                      have hfz131_2 := blk_frozen BK489.out 2
                      try go_wp2
                      have n0_ := Aside0.mk (Kd.V_drew HO_490000.out)
                      have n1_ := Aside0.mk (Kd.V_drew HO_490001.out)
                      have n2_ := Aside0.mk (Kd.V_drew HO_490002.out)
                      have n3_ := Aside0.mk (Kd.V_drew HO_501000.out)
                      have n4_ := Aside0.mk (Kd.V_drew HO_501001.out)
                      have n5_ := Aside0.mk (Kd.V_drew HO_501002.out)
                      have n6_ := Aside0.mk (blk_drew BK476.out)
                      have n7_ := Aside0.mk (blk_drew BK489.out)
                      have n8_ := Aside0.mk (blk_drew BK500.out)
                      have n9_ := Aside0.mk (below_drew1 HB.out)
                      clear HO_490000
                      clear HO_490001
                      clear HO_490002
                      clear HO_501000
                      clear HO_501001
                      clear HO_501002
                      clear BK476
                      clear BK489
                      clear BK500
                      clear HB
                      have HO_490000 := n0_
                      have HO_490001 := n1_
                      have HO_490002 := n2_
                      have HO_501000 := n3_
                      have HO_501001 := n4_
                      have HO_501002 := n5_
                      have BK476 := n6_
                      have BK489 := n7_
                      have BK500 := n8_
                      have HB := n9_
                      clear n0_ n1_ n2_ n3_ n4_ n5_ n6_ n7_ n8_ n9_
                      have p530 : 0 ≤ (x15_4 : Int) := of_decide_eq_true (by first | (with_reducible assumption) | assumption)
                      have q530 : x15_4 < (t485.length : Int) := of_decide_eq_true (by first | (with_reducible assumption) | assumption)
                      obtain ⟨ad530, e530, hx530_0⟩ := Kd.at_bool (Kd.V_reads' HO_490002.out).2.2 x15_4 p530 q530
                      cases e530
                      replace p530 := eq_true p530
                      replace q530 := eq_true q530
                      have p531 : 0 ≤ (x15_4 : Int) := of_decide_eq_true (by first | (with_reducible assumption) | assumption)
                      have q531 : x15_4 < (t496.length : Int) := of_decide_eq_true (by first | (with_reducible assumption) | assumption)
                      obtain ⟨ad531, e531, hx531_0⟩ := Kd.at_bool (Kd.V_reads' HO_501002.out).2.2 x15_4 p531 q531
                      cases e531
                      replace p531 := eq_true p531
                      replace q531 := eq_true q531
                      refine start_ (n := 11) (S := fun w' => w'.cell? ⟨gb489, 0, none⟩ = some (.slice Ao18 t479.length co18) ∧ w'.cell? ⟨gb489, 1, none⟩ = some (.slice Ao21 t482.length co21) ∧ w'.cell? ⟨gb489, 2, none⟩ = some (.slice (some ad530) t485.length co22) ∧ w'.cell? ⟨gb500, 0, none⟩ = some (.slice Ao26 t490.length co26) ∧ w'.cell? ⟨gb500, 1, none⟩ = some (.slice Ao30 t493.length co30) ∧ w'.cell? ⟨gb500, 2, none⟩ = some (.slice (some ad531) t496.length co31) ∧ w'.cell? (ad530.add (x15_4).toNat) = some (.bool (rdOf false t485 x15_4)) ∧ w'.cell? (ad531.add (x15_4).toNat) = some (.bool (rdOf false t496 x15_4))) (ds := []) (bs 11 0) (by kernel_rfl) rfl rfl ⟨(blk_cell BK489.out 0).trans rfl, (blk_cell BK489.out 1).trans rfl, (blk_cell BK489.out 2).trans rfl, (blk_cell BK500.out 0).trans rfl, (blk_cell BK500.out 1).trans rfl, (blk_cell BK500.out 2).trans rfl, hx530_0, hx531_0⟩ (fun hHeld => ?_); refine with_tabW crossroadslaw17_ClassApart.tab22 crossroadslaw17_ClassApart.bits22 (fun HT_ HW_ => ?_)
                      generalize wr.drew = w132 at HO_490000 HO_490001 HO_490002 HO_501000 HO_501001 HO_501002 BK476 BK489 BK500 HB hx530_0 hx531_0 hHeld ⊢
                      refine pq_ 0 (some 140) (bs 11 1) rfl rfl (any_of HT_.out (by kernel_rfl)) ?_
                      refine pq_ 2 (some 142) (bs 11 5) rfl rfl (any_of HT_.out (by kernel_rfl)) ?_
                      refine pq_ 5 (some 145) (bs 11 37) rfl rfl (any_of HT_.out (by kernel_rfl)) ?_
                      refine pq_ 7 (some 147) (bs 11 165) rfl rfl (any_of HT_.out (by kernel_rfl)) ?_
                      refine tq_ 1 (some 141) (bs 11 167) rfl rfl (take_ofW HT_.out HW_.out (by kernel_rfl)) hHeld (Or.inl ⟨by rfl, by rintro w' ⟨s0, s1, s2, s3, s4, s5, s6, s7⟩; go_simp; with_reducible rfl⟩) ?_
                      refine pq_ 3 (some 143) (bs 11 175) rfl rfl (any_of HT_.out (by kernel_rfl)) ?_
                      refine tq_ 4 (some 144) (bs 11 191) rfl rfl (take_ofW HT_.out HW_.out (by kernel_rfl)) hHeld (Or.inl ⟨by rfl, by rintro w' ⟨s0, s1, s2, s3, s4, s5, s6, s7⟩; go_simp; with_reducible rfl⟩) ?_
                      refine tq_ 6 (some 146) (bs 11 255) rfl rfl (take_ofW HT_.out HW_.out (by kernel_rfl)) hHeld (Or.inl ⟨by rfl, by rintro w' ⟨s0, s1, s2, s3, s4, s5, s6, s7⟩; go_simp; with_reducible rfl⟩) ?_
                      refine pq_ 8 (some 148) (bs 11 511) rfl rfl (any_of HT_.out (by kernel_rfl)) ?_
                      refine tq_ 9 (some 149) (bs 11 1023) rfl rfl (take_ofW HT_.out HW_.out (by kernel_rfl)) hHeld (Or.inl ⟨by rfl, by rintro w' ⟨s0, s1, s2, s3, s4, s5, s6, s7⟩; go_simp; with_reducible rfl⟩) ?_
                      refine pq_ 10 (some 150) (bs 11 2047) rfl rfl (any_of HT_.out (by kernel_rfl)) ?_
                      refine done_ (done_of HT_.out (by kernel_rfl)) ?_
                      try go_wp2
                      go_roundg k4
                      case measure => have := HJ9.out; have := HJ33.out; have := HK3.out; have := HK4.out; omega
                      case rel => exact ⟨(wrap64 (x15_4 + 1)), (by first | rfl | (simp; done) | (simp [*]; done)), H', ⟨by have := HJ9.out; have := HJ33.out; have := HK3.out; have := HK4.out; omega⟩, ⟨by (with_reducible repeat (first | apply Kd.V_alloc | apply Kd.V_drewN | apply Kd.V_drew)); exact HO_490000.out⟩, ⟨by (with_reducible repeat (first | apply Kd.V_alloc | apply Kd.V_drewN | apply Kd.V_drew)); exact HO_490001.out⟩, ⟨by (with_reducible repeat (first | apply Kd.V_alloc | apply Kd.V_drewN | apply Kd.V_drew)); exact HO_490002.out⟩, ⟨by (with_reducible repeat (first | apply Kd.V_alloc | apply Kd.V_drewN | apply Kd.V_drew)); exact HO_501000.out⟩, ⟨by (with_reducible repeat (first | apply Kd.V_alloc | apply Kd.V_drewN | apply Kd.V_drew)); exact HO_501001.out⟩, ⟨by (with_reducible repeat (first | apply Kd.V_alloc | apply Kd.V_drewN | apply Kd.V_drew)); exact HO_501002.out⟩, ⟨by (with_reducible repeat (first | refine blk_drewN ?_ _ | refine blk_drew ?_ | refine blk_alloc ?_ _)); exact BK476.out⟩, ⟨by (with_reducible repeat (first | refine blk_drewN ?_ _ | refine blk_drew ?_ | refine blk_alloc ?_ _)); exact BK489.out⟩, ⟨by (with_reducible repeat (first | refine blk_drewN ?_ _ | refine blk_drew ?_ | refine blk_alloc ?_ _)); exact BK500.out⟩, ⟨by repeat (first | (with_reducible first | exact HB.out | apply below_alloc | apply pw_below_drewN | apply below_drew1 | refine below_set ?_ GE476.out | refine below_set ?_ GE489.out | refine below_set ?_ GE500.out) | exact HB.out)⟩⟩
                    ·rw [if_neg c121] at H
                     exact absurd H (by simp)
                   ·rw [if_neg c120] at H
                    exact absurd H (by simp)
                  ·rw [if_neg c119] at H
                   have c119b0 : decide (x15_4 < (t485.length : Int)) = false := decide_eq_false c119
                   clear c119
                   obtain rfl := Option.some.inj H
                   have hnb133 := NB489_476.out
                   have hnc133 := NB476_489.out
                   have hnb134 := NB489_500.out
                   have hnc134 := NB500_489.out
                   have hcz135_0 : wr.cell? ⟨gb489, 0, none⟩ = some (.slice Ao18 t479.length co18) := (blk_cell BK489.out 0).trans rfl
                   have hcz135_1 : wr.cell? ⟨gb489, 1, none⟩ = some (.slice Ao21 t482.length co21) := (blk_cell BK489.out 1).trans rfl
                   have hcz135_2 : wr.cell? ⟨gb489, 2, none⟩ = some (.slice Ao22 t485.length co22) := (blk_cell BK489.out 2).trans rfl
                   have hfz135_0 := blk_frozen BK489.out 0
                   have hfz135_1 := blk_frozen BK489.out 1
                   have hfz135_2 := blk_frozen BK489.out 2
                   go_wp2
                   go_ret
                   exact ⟨by first | rfl | (simp [errW_none, errW_some] <;> rfl) | (simp [*, errW_none, errW_some] <;> rfl), by repeat (first | (with_reducible first | exact HB.out | apply below_alloc | apply pw_below_drewN | apply below_drew1 | refine below_set ?_ GE476.out | refine below_set ?_ GE489.out | refine below_set ?_ GE500.out) | exact HB.out)⟩
            ·rw [if_neg c71] at H
             exact absurd H (by simp)
           ·rw [if_neg c70] at H
            exact absurd H (by simp)
          ·rw [if_neg c69] at H
           exact absurd H (by simp)
         ·rw [if_neg c68] at H
          exact absurd H (by simp)
  ·replace c7 := Bool.eq_false_iff.mpr c7
   subst c7
   have H1 : (some true) = some r := by rw [if_neg (show ¬ (false = true) by decide)] at H; exact H
   clear H
   have H := H1
   clear H1
   obtain rfl := Option.some.inj H
   go_enter Try.func6, Try.ntmps6
   go_wp2_with (first | ((with_reducible refine gate_dst (N := 3) rfl ?_); (try (refine gate_guard (by rfl) ?_; dsimp only)); refine box_event ?hg (N := 3) ?hd (cs := #[.slice A0_0 l0_0.length c0_0, .slice A0_1 l0_1.length c0_1, .int .i64 a0_2, .int .i64 a0_3, .int .i64 a0_4]) (t := 25) ?hr ?_; (case hd => rfl); (case hg => rfl); (case hr => first | (go_simp; done) | (go_simp; rfl)); intro gb476 hg w136 hbox hb; have n0_ := Aside0.mk (below_step (by repeat (first | (with_reducible first | exact HB.out | apply below_alloc | apply pw_below_drewN | apply below_drew1) | exact HB.out)) hb); have n1_ := Aside0.mk (hbox); have n2_ := Aside0.mk ((by rw [hg]; exact (below_size (by repeat (first | (with_reducible first | exact HB.out | apply below_alloc | apply pw_below_drewN | apply below_drew1) | exact HB.out))) : w.heap.size ≤ gb476)); have n3_ := Aside0.mk ((by rw [hg]; exact (below_size (by repeat (first | (with_reducible first | exact HB.out | apply below_alloc | apply pw_below_drewN | apply below_drew1) | exact HB.out))) : w.heap.size ≤ gb476)); clear HB; have HB := n0_; have BK476 := n1_; have GW476 := n2_; have GE476 := n3_; clear n0_ n1_ n2_ n3_; clear hb hbox hg) | ((with_reducible refine gate_callee (f := 9) rfl ?_); refine goesL_ (some 16) rfl rfl Try.func9 (by kernel_rfl) rfl #[] rfl (by (try simp only [List.map_toArray, List.map_cons, List.map_nil]); first | done | rfl | (simp only [List.length_drop, List.length_take]; rfl)) ?_; (with_reducible refine (crossroadslaw17_awake.calls k  true _ A4.out).mono ?_); rintro e w137 ⟨rfl, hb⟩; refine ⟨_, rfl, ?_⟩; have n0_ := Aside0.mk (blk_below (g := gb476) (o := .cells #[.slice A0_0 l0_0.length c0_0, .slice A0_1 l0_1.length c0_1, .int .i64 a0_2, .int .i64 a0_3, .int .i64 a0_4] 25 (0, 0)) (by (with_reducible repeat (first | refine blk_drewN ?_ _ | refine blk_drew ?_ | refine blk_alloc ?_ _)); exact BK476.out) hb); have n1_ := Aside0.mk (below_step (by repeat (first | (with_reducible first | exact HB.out | apply below_alloc | apply pw_below_drewN | apply below_drew1 | refine below_set ?_ GE476.out) | exact HB.out)) hb); clear BK476; clear HB; have BK476 := n0_; have HB := n1_; clear n0_ n1_; (try clear hb); (try clear hb2); (try clear hk); (try clear hi); have hcz138_0 : w137.cell? ⟨gb476, 0, none⟩ = some (.slice A0_0 l0_0.length c0_0) := (blk_cell BK476.out 0).trans rfl; have hcz138_1 : w137.cell? ⟨gb476, 1, none⟩ = some (.slice A0_1 l0_1.length c0_1) := (blk_cell BK476.out 1).trans rfl; have hcz138_2 : w137.cell? ⟨gb476, 2, none⟩ = some (.int .i64 a0_2) := (blk_cell BK476.out 2).trans rfl; have hcz138_3 : w137.cell? ⟨gb476, 3, none⟩ = some (.int .i64 a0_3) := (blk_cell BK476.out 3).trans rfl; have hcz138_4 : w137.cell? ⟨gb476, 4, none⟩ = some (.int .i64 a0_4) := (blk_cell BK476.out 4).trans rfl; have hfz138_0 := blk_frozen BK476.out 0; have hfz138_1 := blk_frozen BK476.out 1; have hfz138_2 := blk_frozen BK476.out 2; have hfz138_3 := blk_frozen BK476.out 3; have hfz138_4 := blk_frozen BK476.out 4) | ((with_reducible refine gate_callee (f := 10) rfl ?_); refine goesL_ (some 19) rfl rfl Try.func10 (by kernel_rfl) rfl #[.agg #[.slice A0_0 l0_0.length c0_0, .slice A0_1 l0_1.length c0_1, .int .i64 a0_2, .int .i64 a0_3, .int .i64 a0_4]] rfl (by (try simp only [List.map_toArray, List.map_cons, List.map_nil]); first | done | rfl | (simp only [List.length_drop, List.length_take]; rfl)) ?_; (with_reducible refine (crossroadslaw17_Small.calls k _ _ l0_0 _ _ l0_1 a0_2 a0_3 a0_4 false _ ?side1 ?side2 ?side3 ?side4 A6.out).mono ?_); (case side1 => repeat (first | exact (Kd.C_below HR0_0.out HB.out) | (with_reducible refine Kd.C_alloc ?_ _) | (with_reducible refine Kd.C_drewN ?_ _) | (with_reducible refine Kd.C_drew ?_))); (case side2 => exact HC0_0.out); (case side3 => repeat (first | exact (Kd.C_below HR0_1.out HB.out) | (with_reducible refine Kd.C_alloc ?_ _) | (with_reducible refine Kd.C_drewN ?_ _) | (with_reducible refine Kd.C_drew ?_))); (case side4 => exact HC0_1.out); rintro e w139 ⟨rfl, hb⟩; refine ⟨_, rfl, ?_⟩; have n0_ := Aside0.mk (blk_below (g := gb476) (o := .cells #[.slice A0_0 l0_0.length c0_0, .slice A0_1 l0_1.length c0_1, .int .i64 a0_2, .int .i64 a0_3, .int .i64 a0_4] 25 (0, 0)) (by (with_reducible repeat (first | refine blk_drewN ?_ _ | refine blk_drew ?_ | refine blk_alloc ?_ _)); exact BK476.out) hb); have n1_ := Aside0.mk (below_step (by repeat (first | (with_reducible first | exact HB.out | apply below_alloc | apply pw_below_drewN | apply below_drew1 | refine below_set ?_ GE476.out) | exact HB.out)) hb); clear BK476; clear HB; have BK476 := n0_; have HB := n1_; clear n0_ n1_; (try clear hb); (try clear hb2); (try clear hk); (try clear hi)))
   go_ret
   exact ⟨by first | rfl | (simp [errW_none, errW_some] <;> rfl) | (simp [*, errW_none, errW_some] <;> rfl), by repeat (first | (with_reducible first | exact HB.out | apply below_alloc | apply pw_below_drewN | apply below_drew1 | refine below_set ?_ GE476.out) | exact HB.out)⟩
 ·replace c5 := Bool.eq_false_iff.mpr c5
  subst c5
  have H1 : (none) = some r := by rw [if_neg (show ¬ (false = true) by decide)] at H; exact H
  clear H
  have H := H1
  clear H1
  exact absurd H (by simp)
/-- THE ONE PURE STATEMENT of crossroadslaw17_ClassApart. -/
def crossroadslaw17_ClassApart.Pure : Prop := ∀ (l0_0 : List (S38)) (l0_1 : List Int) (a0_2 : Int) (a0_3 : Int) (a0_4 : Int) (a1 : Int) (a2 : Int), (l0_0.length * 32 ≤ 140737488351232 ∧ l0_0.length ≤ 9223372036854775807 ∧ ∀ y1_ ∈ l0_0, (y1_.f0.size ≤ 140737488351232 ∧ (True ∧ (Lit.int .i64 y1_.f2).wf = true))) → (l0_1.length * 8 ≤ 140737488351232 ∧ l0_1.length ≤ 9223372036854775807 ∧ ∀ y2_ ∈ l0_1, (Lit.int .i64 y2_).wf = true) → (Lit.int .i64 a0_2).wf = true → (Lit.int .i64 a0_3).wf = true → (Lit.int .i64 a0_4).wf = true → (Lit.int .u16 a1).wf = true → (Lit.int .u16 a2).wf = true → ∃ k, crossroadslaw17_ClassApart.f k l0_0 l0_1 a0_2 a0_3 a0_4 a1 a2 = some true
end Go.Proofs.Ytmlnoapfhimgoaa.P
