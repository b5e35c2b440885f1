-- Laid by a program of this session (the kit's print, changed): Lean checks it.
import Derived.Test.YtckmgoeflecpgaaDoorPx0
import Derived.Test.YtckmgoeflecpgaaDoorPx2
import Derived.Test.YtckmgoeflecpgaaDoorGAwake
import Derived.Test.YtckmgoeflecpgaaDoorGInst
namespace Go.Proofs.YtckmgoeflecpgaaDoor.G
end Go.Proofs.YtckmgoeflecpgaaDoor.G
namespace Go.Proofs.YtckmgoeflecpgaaDoor.P
open Go.Proofs.YtckmgoeflecpgaaDoor.G
open Go.RowKit Go.Proofs.YtckmgoeflecpgaaDoorW.PrintWords Go.Proofs.YtckmgoeflecpgaaDoorW.PrintLast Go.Proofs.YtckmgoeflecpgaaDoorW.PrintMore
attribute [local go_sem] max2_int min2_int max_two min_two max_three min_three max_four min_four   -- for this text's walks alone
set_option linter.unusedVariables false
set_option linter.unusedSimpArgs false

/-! ### crossroadslaw10_decimal: function 18 -/
def crossroadslaw10_decimal.l0 : Nat → Int → ByteArray → Option (ByteArray)
  | 0, _, _ => none
  | k + 1, x0, x3 => if x0 > 9 then ((some (([(48 + ((Int.tmod (wrap64 (Int.tdiv x0 10)) 10) % 256)) % 256] : List Int) : List Int)).bind fun y173 => (if (strOfNums y173).size + x3.size ≤ 9223372036854775807 then (crossroadslaw10_decimal.l0 k (wrap64 (Int.tdiv x0 10)) ((strOfNums y173) ++ x3)) else (none))) else (some x3)
def crossroadslaw10_decimal.f (k : Nat) (a0 : Int) : Option (ByteArray) := crossroadslaw10_decimal.l0 k a0 (strOfNums (([(48 + ((Int.tmod a0 10) % 256)) % 256] : List Int)))
theorem crossroadslaw10_decimal.mono_l : ∀ k, (∀ y0 y1, LeO (crossroadslaw10_decimal.l0 k y0 y1) (crossroadslaw10_decimal.l0 (k + 1) y0 y1))
  | 0 => fun _ _ r h => by simp [crossroadslaw10_decimal.l0] at h
  | k + 1 => by
    have ih0 := crossroadslaw10_decimal.mono_l k
    · intro y0 y1
      unfold crossroadslaw10_decimal.l0
      repeat' first
      | (with_reducible exact ih0 _ _)
      | (with_reducible exact LeO.refl _)
      | (with_reducible exact LeO.none _)
      | (with_reducible refine LeO.ite ?_ ?_)
      | (with_reducible refine LeO.bind ?_ (fun _ => ?_))
      | exact ih0 _ _
      | exact LeO.none _
      | refine LeO.ite ?_ ?_
      | refine LeO.bind ?_ (fun _ => ?_)
theorem crossroadslaw10_decimal.mono : ∀ a0 k, LeO (crossroadslaw10_decimal.f k a0) (crossroadslaw10_decimal.f (k + 1) a0) := by
  intro a0 k
  have ih0 := crossroadslaw10_decimal.mono_l k
  unfold crossroadslaw10_decimal.f
  repeat' first
      | (with_reducible exact ih0 _ _)
      | (with_reducible exact LeO.refl _)
      | (with_reducible exact LeO.none _)
      | (with_reducible refine LeO.ite ?_ ?_)
      | (with_reducible refine LeO.bind ?_ (fun _ => ?_))
      | exact ih0 _ _
      | exact LeO.none _
      | refine LeO.ite ?_ ?_
      | refine LeO.bind ?_ (fun _ => ?_)
set_option maxHeartbeats 8000000 in
set_option maxRecDepth 100000 in
theorem crossroadslaw10_decimal.calls (k : Nat) (a0 : Int) (r : ByteArray) (w : World) (h : crossroadslaw10_decimal.f k a0 = some r) :
    Calls Tryd.prog 18 #[.int .i64 a0] w fun e w' => e = .returned (.string r) ∧ Below w.heap.size w w' := by
  have HB := Aside0.mk (Below.refl w.heap.size w)
  have H : (crossroadslaw10_decimal.l0 k a0 (strOfNums (([(48 + ((Int.tmod a0 10) % 256)) % 256] : List Int)))) = some r := h
  clear h
  obtain ⟨y170, hy170⟩ : ∃ y_ : List Int, y_ = (([(48 + ((Int.tmod a0 10) % 256)) % 256] : List Int)) := ⟨_, rfl⟩
  replace H : (crossroadslaw10_decimal.l0 k a0 (strOfNums y170)) = some r := by first | (rw [hy170]; with_reducible exact H) | (have H2_ := (Option.bind_some _ _).symm.trans H; rw [hy170]; with_reducible exact H2_) | (have H2_ := (Option.bind_some _ _).symm.trans H; with_reducible exact H2_) | with_reducible exact H | (rw [hy170]; exact H) | exact H
  have Ny170 := Aside0.mk hy170
  clear hy170
  have H' := Aside0.mk H
  clear H
  go_enter Tryd.func18, Tryd.ntmps18
  go_wp2_with (first | ((with_reducible refine gate_dst (N := 8) rfl ?_); refine Kd.R_lit (Kd.int .u8) _ 5 ?hg (N := 8) ?hd (xs := ([(48 + ((Int.tmod a0 10) % 256)) % 256] : List Int)) (inner := [.int .u8 ((48 + ((Int.tmod a0 10) % 256)) % 256)]) (ok := fun _ => True) (okp := fun _ => True) ?hr ?hp (fun _ hk => hk) trivial (Below.refl _ _) (Nat.le_refl _) (by simp) ?_; (case hd => rfl); (case hg => rfl); (case hr => first | (go_simp; done) | (go_simp; rfl)); (case hp => exact (Reps.one (show Kd.M (Kd.int .u8) _ _ _ ((48 + ((Int.tmod a0 10) % 256)) % 256) [.int .u8 ((48 + ((Int.tmod a0 10) % 256)) % 256)] from rfl) (Reps.none _ _))); intro v171 w2 ho3 hb hg_ hnew_; clear hg_ hnew_; (first | rw [← Ny170.out] at ho3 | (simp only [Int.reduceToNat] at ho3; rw [← Ny170.out] at ho3)); have n0_ := Aside0.mk (Kd.R_lower ho3 (below_size (by repeat (first | (with_reducible first | exact HB.out | apply below_alloc | apply pw_below_drewN | apply below_drew1) | exact HB.out)))); have n1_ := Aside0.mk (below_step (by repeat (first | (with_reducible first | exact HB.out | apply below_alloc | apply pw_below_drewN | apply below_drew1) | exact HB.out)) hb); clear HB; have HO172 := n0_; have HB := n1_; clear n0_ n1_; clear hb ho3; have hcv4 := own_string (P := Tryd.prog) Tryd.underlying28 Tryd.underlying5 Tryd.underlying9 (Kd.own_of_R HO172.out)))
  go_loopg [0, 3] k (fun kq v0 v3 w' => ∃ (x0_1 : Int) (x3_1 : ByteArray), v0 = .int .i64 x0_1 ∧ v3 = .string x3_1 ∧ Aside0 (crossroadslaw10_decimal.l0 kq x0_1 x3_1 = some r) ∧ Aside0 (kq ≤ k) ∧ Aside0 (Below w.heap.size w w'))
  case atStart => exact ⟨(a0), (strOfNums y170), (by first | rfl | (simp; done) | (simp [*]; done)), (by first | rfl | (simp; done) | (simp [*]; done)), H', ⟨Nat.le_refl _⟩, ⟨by repeat (first | (with_reducible first | exact HB.out | apply below_alloc | apply pw_below_drewN | apply below_drew1) | exact HB.out)⟩⟩
  case round =>
    clear H'
    try clear c1
    try clear p2
    try clear hcv4
    obtain ⟨x0_1, x3_1, rfl, rfl, HA, HK1, HB⟩ := hrel
    cases gk with
    | zero => exact absurd HA.out (by simp [crossroadslaw10_decimal.l0])
    | succ k1 =>
      have H := HA.out
      clear HA
      simp only [crossroadslaw10_decimal.l0] at H
      by_cases c5 : x0_1 > 9
      · rw [if_pos c5] at H
        have c5b0 : decide (9 < x0_1) = true := decide_eq_true c5
        clear c5
        obtain ⟨y173, hy173⟩ : ∃ y_ : List Int, y_ = (([(48 + ((Int.tmod (wrap64 (Int.tdiv x0_1 10)) 10) % 256)) % 256] : List Int)) := ⟨_, rfl⟩
        replace H : (if (strOfNums y173).size + x3_1.size ≤ 9223372036854775807 then (crossroadslaw10_decimal.l0 k1 (wrap64 (Int.tdiv x0_1 10)) ((strOfNums y173) ++ x3_1)) else (none)) = some r := by first | (rw [hy173]; with_reducible exact H) | (have H2_ := (Option.bind_some _ _).symm.trans H; rw [hy173]; with_reducible exact H2_) | (have H2_ := (Option.bind_some _ _).symm.trans H; with_reducible exact H2_) | with_reducible exact H | (rw [hy173]; exact H) | exact H
        have Ny173 := Aside0.mk hy173
        clear hy173
        by_cases c6 : (strOfNums y173).size + x3_1.size ≤ 9223372036854775807
        · rw [if_pos c6] at H
          have c6b0 := eq_true c6
          have c6b1 : decide ((strOfNums y173).size + x3_1.size ≤ 9223372036854775807) = true := decide_eq_true c6
          try have c6b2 : (9223372036854775807 < (strOfNums y173).size + x3_1.size) = False := eq_false (Nat.not_lt.2 c6)
          have H' := Aside0.mk H
          clear H
          go_wp2_with (first | ((with_reducible refine gate_dst (N := 18) rfl ?_); refine Kd.R_lit (Kd.int .u8) _ 5 ?hg (N := 18) ?hd (xs := ([(48 + ((Int.tmod (wrap64 (Int.tdiv x0_1 10)) 10) % 256)) % 256] : List Int)) (inner := [.int .u8 ((48 + ((Int.tmod (wrap64 (Int.tdiv x0_1 10)) 10) % 256)) % 256)]) (ok := fun _ => True) (okp := fun _ => True) ?hr ?hp (fun _ hk => hk) trivial (Below.refl _ _) (Nat.le_refl _) (by simp) ?_; (case hd => rfl); (case hg => rfl); (case hr => first | (go_simp; done) | (go_simp; rfl)); (case hp => exact (Reps.one (show Kd.M (Kd.int .u8) _ _ _ ((48 + ((Int.tmod (wrap64 (Int.tdiv x0_1 10)) 10) % 256)) % 256) [.int .u8 ((48 + ((Int.tmod (wrap64 (Int.tdiv x0_1 10)) 10) % 256)) % 256)] from rfl) (Reps.none _ _))); intro v174 w7 ho8 hb hg_ hnew_; clear hg_ hnew_; (first | rw [← Ny173.out] at ho8 | (simp only [Int.reduceToNat] at ho8; rw [← Ny173.out] at ho8)); have n0_ := Aside0.mk (Kd.R_lower ho8 (below_size (by repeat (first | (with_reducible first | exact HB.out | apply below_alloc | apply pw_below_drewN | apply below_drew1) | exact HB.out)))); have n1_ := Aside0.mk (below_step (by repeat (first | (with_reducible first | exact HB.out | apply below_alloc | apply pw_below_drewN | apply below_drew1) | exact HB.out)) hb); clear HB; have HO175 := n0_; have HB := n1_; clear n0_ n1_; clear hb ho8; have hcv9 := own_string (P := Tryd.prog) Tryd.underlying28 Tryd.underlying5 Tryd.underlying9 (Kd.own_of_R HO175.out)))
          go_roundg k1
          case measure => have := HK1.out; omega
          case rel => exact ⟨(wrap64 (Int.tdiv x0_1 10)), ((strOfNums y173) ++ x3_1), (by first | rfl | (simp; done) | (simp [*]; done)), (by first | rfl | (simp; done) | (simp [*]; done)), H', ⟨by have := HK1.out; omega⟩, ⟨by repeat (first | (with_reducible first | exact HB.out | apply below_alloc | apply pw_below_drewN | apply below_drew1) | exact HB.out)⟩⟩
        · rw [if_neg c6] at H
          exact absurd H (by simp)
      · rw [if_neg c5] at H
        have c5b0 : decide (9 < x0_1) = false := decide_eq_false c5
        clear c5
        obtain rfl := Option.some.inj H
        go_wp2
        go_ret
        exact ⟨by first | rfl | (simp [errW_none, errW_some] <;> rfl) | (simp [*, errW_none, errW_some] <;> rfl), by repeat (first | (with_reducible first | exact HB.out | apply below_alloc | apply pw_below_drewN | apply below_drew1) | exact HB.out)⟩

/-! ### crossroadslaw10_ProgTexts: function 5 -/
mutual
def crossroadslaw10_ProgTexts.l0 : Nat → ByteArray → Int → List (S41) → List ByteArray → Option (Bool)
  | 0, _, _, _, _ => none
  | k + 1, x3, x4, x177000, x177001 => if x4 < (x177000.length : Int) then (if 0 ≤ x4 then ((crossroadsref12_Row.f ((rd_T41 x177000 x4).f0)).bind fun bt181 => (if bt181.2.2.2.2 = true then ((crossroadsref12_InstMay.f ((rd_T41 x177000 x4).f0) ((rd_T41 x177000 x4).f1)).bind fun t187 => (crossroadslaw10_ProgTexts.j1 k x3 x4 bt181.1 bt181.2.2.2.1 (!t187) x177000 x177001)) else (crossroadslaw10_ProgTexts.j1 k x3 x4 bt181.1 bt181.2.2.2.1 true x177000 x177001))) else (none)) else ((prog_Text.f x177000 x177001).bind fun t179 => (some (t179.toList == x3.toList)))
def crossroadslaw10_ProgTexts.j1 : Nat → ByteArray → Int → ByteArray → Int → Bool → List (S41) → List ByteArray → Option (Bool)
  | 0, _, _, _, _, _, _, _ => none
  | k + 1, x3, x4, x5, x8, x52, x177000, x177001 => if x52 = true then ((crossroadslaw10_decimal.f k x4).bind fun t188 => (if x3.size + t188.size ≤ 9223372036854775807 then (if (x3 ++ t188).size + 3 ≤ 9223372036854775807 then (crossroadslaw10_ProgTexts.l0 k ((x3 ++ t188) ++ (⟨#[32, 63, 10]⟩ : ByteArray)) (wrap64 (x4 + 1)) x177000 x177001) else (none)) else (none))) else (if x8 = 0 then ((crossroadslaw10_decimal.f k x4).bind fun t189 => (if x3.size + t189.size ≤ 9223372036854775807 then (if (x3 ++ t189).size + 1 ≤ 9223372036854775807 then (if ((x3 ++ t189) ++ (⟨#[32]⟩ : ByteArray)).size + x5.size ≤ 9223372036854775807 then (if (((x3 ++ t189) ++ (⟨#[32]⟩ : ByteArray)) ++ x5).size + 1 ≤ 9223372036854775807 then (crossroadslaw10_ProgTexts.l0 k ((((x3 ++ t189) ++ (⟨#[32]⟩ : ByteArray)) ++ x5) ++ (⟨#[10]⟩ : ByteArray)) (wrap64 (x4 + 1)) x177000 x177001) else (none)) else (none)) else (none)) else (none))) else ((crossroadslaw10_decimal.f k x4).bind fun t190 => (if x3.size + t190.size ≤ 9223372036854775807 then (if (x3 ++ t190).size + 1 ≤ 9223372036854775807 then (if ((x3 ++ t190) ++ (⟨#[32]⟩ : ByteArray)).size + x5.size ≤ 9223372036854775807 then (if (((x3 ++ t190) ++ (⟨#[32]⟩ : ByteArray)) ++ x5).size + 1 ≤ 9223372036854775807 then (if 0 ≤ x4 then (if x4 < (x177000.length : Int) then ((crossroadslaw10_decimal.f k ((rd_T41 x177000 x4).f1)).bind fun t192 => (if ((((x3 ++ t190) ++ (⟨#[32]⟩ : ByteArray)) ++ x5) ++ (⟨#[32]⟩ : ByteArray)).size + t192.size ≤ 9223372036854775807 then (if (((((x3 ++ t190) ++ (⟨#[32]⟩ : ByteArray)) ++ x5) ++ (⟨#[32]⟩ : ByteArray)) ++ t192).size + 1 ≤ 9223372036854775807 then (crossroadslaw10_ProgTexts.l0 k ((((((x3 ++ t190) ++ (⟨#[32]⟩ : ByteArray)) ++ x5) ++ (⟨#[32]⟩ : ByteArray)) ++ t192) ++ (⟨#[10]⟩ : ByteArray)) (wrap64 (x4 + 1)) x177000 x177001) else (none)) else (none))) else (none)) else (none)) else (none)) else (none)) else (none)) else (none))))
end
def crossroadslaw10_ProgTexts.f (k : Nat) (l0_0 : List (S41)) (l0_1 : List ByteArray) : Option (Bool) := (crossroadslaw10_awake.f).bind fun t177 => (if t177 = true then ((crossroadslaw10_Small.f k l0_0 l0_1).bind fun t178 => (if t178 = true then (crossroadslaw10_ProgTexts.l0 k (⟨#[]⟩ : ByteArray) 0 l0_0 l0_1) else (some true))) else (none))
theorem crossroadslaw10_ProgTexts.mono_l : ∀ k, (∀ y0 y1 y2 y3, LeO (crossroadslaw10_ProgTexts.l0 k y0 y1 y2 y3) (crossroadslaw10_ProgTexts.l0 (k + 1) y0 y1 y2 y3)) ∧ (∀ y0 y1 y2 y3 y4 y5 y6, LeO (crossroadslaw10_ProgTexts.j1 k y0 y1 y2 y3 y4 y5 y6) (crossroadslaw10_ProgTexts.j1 (k + 1) y0 y1 y2 y3 y4 y5 y6))
  | 0 => ⟨fun _ _ _ _ r h => by simp [crossroadslaw10_ProgTexts.l0] at h, fun _ _ _ _ _ _ _ r h => by simp [crossroadslaw10_ProgTexts.j1] at h⟩
  | k + 1 => by
    obtain ⟨ih0, ih1⟩ := crossroadslaw10_ProgTexts.mono_l k
    refine ⟨?_, ?_⟩
    · intro y0 y1 y2 y3
      unfold crossroadslaw10_ProgTexts.l0
      repeat' first
      | (with_reducible exact ih0 _ _ _ _)
      | (with_reducible exact ih1 _ _ _ _ _ _ _)
      | (with_reducible exact crossroadslaw10_Small.mono _ _ _)
      | (with_reducible exact crossroadslaw10_decimal.mono _ _)
      | (with_reducible exact LeO.refl _)
      | (with_reducible exact LeO.none _)
      | (with_reducible refine LeO.ite ?_ ?_)
      | (with_reducible refine LeO.bind ?_ (fun _ => ?_))
      | exact ih0 _ _ _ _
      | exact ih1 _ _ _ _ _ _ _
      | exact crossroadslaw10_Small.mono _ _ _
      | exact crossroadslaw10_decimal.mono _ _
      | exact LeO.none _
      | refine LeO.ite ?_ ?_
      | refine LeO.bind ?_ (fun _ => ?_)
    · intro y0 y1 y2 y3 y4 y5 y6
      unfold crossroadslaw10_ProgTexts.j1
      repeat' first
      | (with_reducible exact ih0 _ _ _ _)
      | (with_reducible exact ih1 _ _ _ _ _ _ _)
      | (with_reducible exact crossroadslaw10_Small.mono _ _ _)
      | (with_reducible exact crossroadslaw10_decimal.mono _ _)
      | (with_reducible exact LeO.refl _)
      | (with_reducible exact LeO.none _)
      | (with_reducible refine LeO.ite ?_ ?_)
      | (with_reducible refine LeO.bind ?_ (fun _ => ?_))
      | exact ih0 _ _ _ _
      | exact ih1 _ _ _ _ _ _ _
      | exact crossroadslaw10_Small.mono _ _ _
      | exact crossroadslaw10_decimal.mono _ _
      | exact LeO.none _
      | refine LeO.ite ?_ ?_
      | refine LeO.bind ?_ (fun _ => ?_)
theorem crossroadslaw10_ProgTexts.mono : ∀ a0 a1 k, LeO (crossroadslaw10_ProgTexts.f k a0 a1) (crossroadslaw10_ProgTexts.f (k + 1) a0 a1) := by
  intro a0 a1 k
  obtain ⟨ih0, ih1⟩ := crossroadslaw10_ProgTexts.mono_l k
  unfold crossroadslaw10_ProgTexts.f
  repeat' first
      | (with_reducible exact ih0 _ _ _ _)
      | (with_reducible exact ih1 _ _ _ _ _ _ _)
      | (with_reducible exact crossroadslaw10_Small.mono _ _ _)
      | (with_reducible exact crossroadslaw10_decimal.mono _ _)
      | (with_reducible exact LeO.refl _)
      | (with_reducible exact LeO.none _)
      | (with_reducible refine LeO.ite ?_ ?_)
      | (with_reducible refine LeO.bind ?_ (fun _ => ?_))
      | exact ih0 _ _ _ _
      | exact ih1 _ _ _ _ _ _ _
      | exact crossroadslaw10_Small.mono _ _ _
      | exact crossroadslaw10_decimal.mono _ _
      | exact LeO.none _
      | refine LeO.ite ?_ ?_
      | refine LeO.bind ?_ (fun _ => ?_)
def crossroadslaw10_ProgTexts.T10 : Bool × List (List Nat × List Nat) := (true, [([], []), ([], []), ([1], [1]), ([0, 2], [0, 2]), ([3], [3]), ([], []), ([4, 5], [4, 5]), ([6], [6]), ([], []), ([8], [8]), ([], []), ([9, 10], [9, 10]), ([11], [11]), ([12], [12]), ([13, 2], [13]), ([7, 14], [7, 14]), ([15], [15]), ([16, 14, 0, 1, 2, 3, 4, 5, 6, 7, 8, 9, 10, 11, 12, 13, 14, 15, 16], [0, 16])])
def crossroadslaw10_ProgTexts.B10 : List Nat := [0, 0, 2, 7, 15, 0, 63, 127, 0, 256, 0, 1792, 3840, 7936, 16134, 32767, 65535, 131071]
theorem crossroadslaw10_ProgTexts.tab10 : rtab .any (opsOf Tryd.f5 10) = crossroadslaw10_ProgTexts.T10 := by kernel_rfl
theorem crossroadslaw10_ProgTexts.bits10 : waitsOk crossroadslaw10_ProgTexts.T10.2 crossroadslaw10_ProgTexts.B10 = true := by kernel_rfl
set_option maxHeartbeats 8000000 in
set_option maxRecDepth 100000 in
theorem crossroadslaw10_ProgTexts.calls (k : Nat) (A0_0 : Option Addr) (c0_0 : Nat) (l0_0 : List (S41)) (A0_1 : Option Addr) (c0_1 : Nat) (l0_1 : List ByteArray) (r : Bool) (w : World) (hLW : LW w) (hr0_0 : Kd.C k41 w A0_0 l0_0.length l0_0) (hc0_0 : l0_0.length ≤ c0_0) (hr0_1 : Kd.C Kd.string w A0_1 l0_1.length l0_1) (hc0_1 : l0_1.length ≤ c0_1) (h : crossroadslaw10_ProgTexts.f k l0_0 l0_1 = some r) :
    Calls Tryd.prog 5 #[.agg #[.slice A0_0 l0_0.length c0_0, .slice A0_1 l0_1.length c0_1]] w fun e w' => e = .returned (.bool r) ∧ Below w.heap.size w w' := by
  have hu25 := Tryd.underlying25
  have hu41 := Tryd.underlying41
  have HR0_0 := Aside0.mk hr0_0
  have HC0_0 := Aside0.mk hc0_0
  clear hr0_0 hc0_0
  have HR0_1 := Aside0.mk hr0_1
  have HC0_1 := Aside0.mk hc0_1
  clear hr0_1 hc0_1
  have HB := Aside0.mk (Below.refl w.heap.size w)
  have H : ((crossroadslaw10_awake.f).bind fun t177 => (if t177 = true then ((crossroadslaw10_Small.f k l0_0 l0_1).bind fun t178 => (if t178 = true then (crossroadslaw10_ProgTexts.l0 k (⟨#[]⟩ : ByteArray) 0 l0_0 l0_1) else (some true))) else (none))) = some r := h
  clear h
  replace H := Option.bind_eq_some_iff.mp H
  obtain ⟨t177, A20, H⟩ := H
  replace H : (if t177 = true then ((crossroadslaw10_Small.f k l0_0 l0_1).bind fun t178 => (if t178 = true then (crossroadslaw10_ProgTexts.l0 k (⟨#[]⟩ : ByteArray) 0 l0_0 l0_1) else (some true))) else (none)) = some r := H
  have A2 := Aside0.mk A20
  clear A20
  by_cases c3 : t177 = true
  · subst c3
    have H1 : ((crossroadslaw10_Small.f k l0_0 l0_1).bind fun t178 => (if t178 = true then (crossroadslaw10_ProgTexts.l0 k (⟨#[]⟩ : ByteArray) 0 l0_0 l0_1) else (some true))) = some r := by rw [if_pos rfl] at H; exact H
    clear H
    have H := H1
    clear H1
    replace H := Option.bind_eq_some_iff.mp H
    obtain ⟨t178, A40, H⟩ := H
    replace H : (if t178 = true then (crossroadslaw10_ProgTexts.l0 k (⟨#[]⟩ : ByteArray) 0 l0_0 l0_1) else (some true)) = some r := H
    have A4 := Aside0.mk A40
    clear A40
    by_cases c5 : t178 = true
    · subst c5
      have H1 : (crossroadslaw10_ProgTexts.l0 k (⟨#[]⟩ : ByteArray) 0 l0_0 l0_1) = some r := by rw [if_pos rfl] at H; exact H
      clear H
      have H := H1
      clear H1
      have H' := Aside0.mk H
      clear H
      go_enter Tryd.func5, Tryd.ntmps5
      go_wp2_with (first | ((with_reducible refine gate_dst (N := 1) rfl ?_); refine box_event ?hg (N := 1) ?hd (cs := #[.slice A0_0 l0_0.length c0_0, .slice A0_1 l0_1.length c0_1]) (t := 25) ?hr ?_; (case hd => rfl); (case hg => rfl); (case hr => first | (go_simp; done) | (go_simp; rfl)); intro gb176 hg w6 hbox hb; have n0_ := Aside0.mk (below_step (by repeat (first | (with_reducible first | exact HB.out | apply below_alloc | apply pw_below_drewN | apply below_drew1) | exact HB.out)) hb); have n1_ := Aside0.mk (hbox); have n2_ := Aside0.mk ((by rw [hg]; exact (below_size (by repeat (first | (with_reducible first | exact HB.out | apply below_alloc | apply pw_below_drewN | apply below_drew1) | exact HB.out))) : w.heap.size ≤ gb176)); have n3_ := Aside0.mk ((by rw [hg]; exact (below_size (by repeat (first | (with_reducible first | exact HB.out | apply below_alloc | apply pw_below_drewN | apply below_drew1) | exact HB.out))) : w.heap.size ≤ gb176)); clear HB; have HB := n0_; have BK176 := n1_; have GW176 := n2_; have GE176 := n3_; clear n0_ n1_ n2_ n3_; clear hb hbox hg) | ((with_reducible refine gate_callee (f := 10) rfl ?_); refine goesL_ (some 10) rfl rfl Tryd.func10 (by kernel_rfl) rfl #[] rfl (by (try simp only [List.map_toArray, List.map_cons, List.map_nil]); first | done | rfl | (simp only [List.length_drop, List.length_take]; rfl)) ?_; (with_reducible refine (crossroadslaw10_awake.calls true _ (hLW.below (by repeat (first | (with_reducible first | exact HB.out | apply below_alloc | apply pw_below_drewN | apply below_drew1) | exact HB.out))) A2.out).mono ?_); rintro e w7 ⟨rfl, hb⟩; refine ⟨_, rfl, ?_⟩; have n0_ := Aside0.mk (blk_below (g := gb176) (o := .cells #[.slice A0_0 l0_0.length c0_0, .slice A0_1 l0_1.length c0_1] 25 (0, 0)) (by (with_reducible repeat (first | refine blk_drewN ?_ _ | refine blk_drew ?_ | refine blk_alloc ?_ _)); exact BK176.out) hb); have n1_ := Aside0.mk (below_step (by repeat (first | (with_reducible first | exact HB.out | apply below_alloc | apply pw_below_drewN | apply below_drew1 | refine below_set ?_ GE176.out) | exact HB.out)) hb); clear BK176; clear HB; have BK176 := n0_; have HB := n1_; clear n0_ n1_; (try clear hb); (try clear hb2); (try clear hk); (try clear hi); have hcz8_0 : w7.cell? ⟨gb176, 0, none⟩ = some (.slice A0_0 l0_0.length c0_0) := (blk_cell BK176.out 0).trans rfl; have hcz8_1 : w7.cell? ⟨gb176, 1, none⟩ = some (.slice A0_1 l0_1.length c0_1) := (blk_cell BK176.out 1).trans rfl; have hfz8_0 := blk_frozen BK176.out 0; have hfz8_1 := blk_frozen BK176.out 1) | ((with_reducible refine gate_callee (f := 11) rfl ?_); refine goesL_ (some 13) rfl rfl Tryd.func11 (by kernel_rfl) rfl #[.agg #[.slice A0_0 l0_0.length c0_0, .slice A0_1 l0_1.length c0_1]] rfl (by (try simp only [List.map_toArray, List.map_cons, List.map_nil]); first | done | rfl | (simp only [List.length_drop, List.length_take]; rfl)) ?_; (with_reducible refine (crossroadslaw10_Small.calls k _ _ l0_0 _ _ l0_1 true _ ?side1 ?side2 ?side3 ?side4 A4.out).mono ?_); (case side1 => repeat (first | exact (Kd.C_below HR0_0.out HB.out) | (with_reducible refine Kd.C_alloc ?_ _) | (with_reducible refine Kd.C_drewN ?_ _) | (with_reducible refine Kd.C_drew ?_))); (case side2 => exact HC0_0.out); (case side3 => repeat (first | exact (Kd.C_below HR0_1.out HB.out) | (with_reducible refine Kd.C_alloc ?_ _) | (with_reducible refine Kd.C_drewN ?_ _) | (with_reducible refine Kd.C_drew ?_))); (case side4 => exact HC0_1.out); rintro e w9 ⟨rfl, hb⟩; refine ⟨_, rfl, ?_⟩; have n0_ := Aside0.mk (blk_below (g := gb176) (o := .cells #[.slice A0_0 l0_0.length c0_0, .slice A0_1 l0_1.length c0_1] 25 (0, 0)) (by (with_reducible repeat (first | refine blk_drewN ?_ _ | refine blk_drew ?_ | refine blk_alloc ?_ _)); exact BK176.out) hb); have n1_ := Aside0.mk (below_step (by repeat (first | (with_reducible first | exact HB.out | apply below_alloc | apply pw_below_drewN | apply below_drew1 | refine below_set ?_ GE176.out) | exact HB.out)) hb); clear BK176; clear HB; have BK176 := n0_; have HB := n1_; clear n0_ n1_; (try clear hb); (try clear hb2); (try clear hk); (try clear hi)))
      go_loopg [3, 4] k (fun kq v3 v4 w' => ∃ (x3_1 : ByteArray) (x4_1 : Int), v3 = .string x3_1 ∧ v4 = .int .i64 x4_1 ∧ Aside0 (crossroadslaw10_ProgTexts.l0 kq x3_1 x4_1 l0_0 l0_1 = some r) ∧ Aside0 (kq ≤ k) ∧ Aside0 (w'.heap[gb176]? = some (.cells #[(.slice A0_0 l0_0.length c0_0), (.slice A0_1 l0_1.length c0_1)] 25 (0, 0))) ∧ Aside0 (Below w.heap.size w w'))
      case atStart => exact ⟨((⟨#[]⟩ : ByteArray)), (0), (by first | rfl | (simp; done) | (simp [*]; done)), (by first | rfl | (simp; done) | (simp [*]; done)), H', ⟨Nat.le_refl _⟩, ⟨by (with_reducible repeat (first | refine blk_drewN ?_ _ | refine blk_drew ?_ | refine blk_alloc ?_ _)); exact BK176.out⟩, ⟨by repeat (first | (with_reducible first | exact HB.out | apply below_alloc | apply pw_below_drewN | apply below_drew1 | refine below_set ?_ GE176.out) | exact HB.out)⟩⟩
      case round =>
        clear H'
        try clear c1
        try clear p2
        try clear c3
        try clear c5
        try clear hcz8_0
        try clear hcz8_1
        try clear hfz8_0
        try clear hfz8_1
        obtain ⟨x3_1, x4_1, rfl, rfl, HA, HK1, BK176, HB⟩ := hrel
        cases gk with
        | zero => exact absurd HA.out (by simp [crossroadslaw10_ProgTexts.l0])
        | succ k1 =>
          have H := HA.out
          clear HA
          simp only [crossroadslaw10_ProgTexts.l0] at H
          by_cases c10 : x4_1 < (l0_0.length : Int)
          · rw [if_pos c10] at H
            have c10b0 : decide (x4_1 < (l0_0.length : Int)) = true := decide_eq_true c10
            clear c10
            by_cases c11 : 0 ≤ x4_1
            · rw [if_pos c11] at H
              have c11b0 : decide (0 ≤ x4_1) = true := decide_eq_true c11
              clear c11
              replace H := Option.bind_eq_some_iff.mp H
              obtain ⟨⟨t181, t182, t183, t184, t185⟩, A120, H⟩ := H
              replace H : (if t185 = true then ((crossroadsref12_InstMay.f ((rd_T41 l0_0 x4_1).f0) ((rd_T41 l0_0 x4_1).f1)).bind fun t187 => (crossroadslaw10_ProgTexts.j1 k1 x3_1 x4_1 t181 t184 (!t187) l0_0 l0_1)) else (crossroadslaw10_ProgTexts.j1 k1 x3_1 x4_1 t181 t184 true l0_0 l0_1)) = some r := H
              have A12 := Aside0.mk A120
              clear A120
              have HC13 := Aside0.mk H
              clear H
              have hcz14_0 : wr.cell? ⟨gb176, 0, none⟩ = some (.slice A0_0 l0_0.length c0_0) := (blk_cell BK176.out 0).trans rfl
              have hcz14_1 : wr.cell? ⟨gb176, 1, none⟩ = some (.slice A0_1 l0_1.length c0_1) := (blk_cell BK176.out 1).trans rfl
              have hfz14_0 := blk_frozen BK176.out 0
              have hfz14_1 := blk_frozen BK176.out 1
              have p180 : 0 ≤ (x4_1 : Int) := of_decide_eq_true (by first | (with_reducible assumption) | assumption)
              have q180 : x4_1 < (l0_0.length : Int) := of_decide_eq_true (by first | (with_reducible assumption) | assumption)
              obtain ⟨ad180, e180, hx180_0, hx180_1⟩ := at_T41 HR0_0.out x4_1 p180 q180
              cases e180
              replace hx180_0 := (HB.out.cell (World.block_lt_of_cell? w _ hx180_0)).trans hx180_0
              replace hx180_1 := (HB.out.cell (World.block_lt_of_cell? w _ hx180_1)).trans hx180_1
              replace p180 := eq_true p180
              replace q180 := eq_true q180
              go_upto_region 11 with (first | ((with_reducible refine gate_callee (f := 16) rfl ?_); refine goesL_ (some 29) rfl rfl Tryd.func16 (by kernel_rfl) rfl #[.int .i64 ((rd_T41 l0_0 x4_1).f0)] rfl (by (try simp only [List.map_toArray, List.map_cons, List.map_nil]); first | done | rfl | (simp only [List.length_drop, List.length_take]; rfl)) ?_; (with_reducible refine (crossroadsref12_Row.calls ((rd_T41 l0_0 x4_1).f0) t181 t182 t183 t184 t185 _ A12.out).mono ?_); rintro e w15 ⟨rfl, hb⟩; refine ⟨_, rfl, ?_⟩; have n0_ := Aside0.mk (blk_below (g := gb176) (o := .cells #[.slice (some ad180) l0_0.length c0_0, .slice A0_1 l0_1.length c0_1] 25 (0, 0)) (by (with_reducible repeat (first | refine blk_drewN ?_ _ | refine blk_drew ?_ | refine blk_alloc ?_ _)); exact BK176.out) hb); have n1_ := Aside0.mk (below_step (by repeat (first | (with_reducible first | exact HB.out | apply below_alloc | apply pw_below_drewN | apply below_drew1 | refine below_set ?_ GE176.out) | exact HB.out)) hb); clear BK176; clear HB; have BK176 := n0_; have HB := n1_; clear n0_ n1_; (try clear hb); (try clear hb2); (try clear hk); (try clear hi)))
              (try simp only [Act.put, List.setIfInBounds_toArray, List.set_cons_zero, List.set_cons_succ])
              go_cut [52] (fun v52 wc => ∃ (kq : Nat) (x52_12 : Bool), v52 = .bool x52_12 ∧ Aside0 (crossroadslaw10_ProgTexts.j1 kq x3_1 x4_1 t181 t184 x52_12 l0_0 l0_1 = some r) ∧ Aside0 (kq ≤ k1) ∧ Aside0 (wc.heap[gb176]? = some (.cells #[(.slice (some ad180) l0_0.length c0_0), (.slice A0_1 l0_1.length c0_1)] 25 (0, 0))) ∧ Aside0 (Below w.heap.size w wc))
              case first =>
                have H := HC13.out
                clear HC13
                by_cases c16 : t185 = true
                · subst c16
                  have H1 : ((crossroadsref12_InstMay.f ((rd_T41 l0_0 x4_1).f0) ((rd_T41 l0_0 x4_1).f1)).bind fun t187 => (crossroadslaw10_ProgTexts.j1 k1 x3_1 x4_1 t181 t184 (!t187) l0_0 l0_1)) = some r := by rw [if_pos rfl] at H; exact H
                  clear H
                  have H := H1
                  clear H1
                  replace H := Option.bind_eq_some_iff.mp H
                  obtain ⟨t187, A170, H⟩ := H
                  replace H : (crossroadslaw10_ProgTexts.j1 k1 x3_1 x4_1 t181 t184 (!t187) l0_0 l0_1) = some r := H
                  have A17 := Aside0.mk A170
                  clear A170
                  have H' := Aside0.mk H
                  clear H
                  have hcz18_0 : w15.cell? ⟨gb176, 0, none⟩ = some (.slice (some ad180) l0_0.length c0_0) := (blk_cell BK176.out 0).trans rfl
                  have hcz18_1 : w15.cell? ⟨gb176, 1, none⟩ = some (.slice A0_1 l0_1.length c0_1) := (blk_cell BK176.out 1).trans rfl
                  have hfz18_0 := blk_frozen BK176.out 0
                  have hfz18_1 := blk_frozen BK176.out 1
                  have p186 : 0 ≤ (x4_1 : Int) := of_decide_eq_true (by first | (with_reducible assumption) | assumption)
                  have q186 : x4_1 < (l0_0.length : Int) := of_decide_eq_true (by first | (with_reducible assumption) | assumption)
                  obtain ⟨ad186, e186, hx186_0, hx186_1⟩ := at_T41 HR0_0.out x4_1 p186 q186
                  obtain rfl : ad180 = ad186 := (by injection e186)
                  replace hx186_0 := (HB.out.cell (World.block_lt_of_cell? w _ hx186_0)).trans hx186_0
                  replace hx186_1 := (HB.out.cell (World.block_lt_of_cell? w _ hx186_1)).trans hx186_1
                  replace p186 := eq_true p186
                  replace q186 := eq_true q186
                  go_wp2_with (first | (go_at_call 17; (with_reducible refine (crossroadsref12_InstMay.calls ((rd_T41 l0_0 x4_1).f0) ((rd_T41 l0_0 x4_1).f1) t187 _ A17.out).mono ?_); rintro e w19 ⟨rfl, hb⟩; have n0_ := Aside0.mk (blk_below (g := gb176) (o := .cells #[.slice (some ad180) l0_0.length c0_0, .slice A0_1 l0_1.length c0_1] 25 (0, 0)) (by (with_reducible repeat (first | refine blk_drewN ?_ _ | refine blk_drew ?_ | refine blk_alloc ?_ _)); exact BK176.out) hb); have n1_ := Aside0.mk (below_step (by repeat (first | (with_reducible first | exact HB.out | apply below_alloc | apply pw_below_drewN | apply below_drew1 | refine below_set ?_ GE176.out) | exact HB.out)) hb); clear BK176; clear HB; have BK176 := n0_; have HB := n1_; clear n0_ n1_; (try clear hb); (try clear hb2); (try clear hk); (try clear hi)))
                  go_meet
                  case rel => exact ⟨_, (!t187), (by first | rfl | (simp; done) | (simp [*]; done)), H', ⟨by have := HK1.out; first | omega | exact Nat.le_refl _⟩, ⟨by (with_reducible repeat (first | refine blk_drewN ?_ _ | refine blk_drew ?_ | refine blk_alloc ?_ _)); exact BK176.out⟩, ⟨by repeat (first | (with_reducible first | exact HB.out | apply below_alloc | apply pw_below_drewN | apply below_drew1 | refine below_set ?_ GE176.out) | exact HB.out)⟩⟩
                · replace c16 := Bool.eq_false_iff.mpr c16
                  subst c16
                  have H1 : (crossroadslaw10_ProgTexts.j1 k1 x3_1 x4_1 t181 t184 true l0_0 l0_1) = some r := by rw [if_neg (show ¬ (false = true) by decide)] at H; exact H
                  clear H
                  have H := H1
                  clear H1
                  have H' := Aside0.mk H
                  clear H
                  go_wp2
                  go_meet
                  case rel => exact ⟨_, (true), (by first | rfl | (simp; done) | (simp [*]; done)), H', ⟨by have := HK1.out; first | omega | exact Nat.le_refl _⟩, ⟨by (with_reducible repeat (first | refine blk_drewN ?_ _ | refine blk_drew ?_ | refine blk_alloc ?_ _)); exact BK176.out⟩, ⟨by repeat (first | (with_reducible first | exact HB.out | apply below_alloc | apply pw_below_drewN | apply below_drew1 | refine below_set ?_ GE176.out) | exact HB.out)⟩⟩
              case rest =>
                clear HC13
                try clear c1
                try clear p1
                try clear q1
                try clear hx1
                try clear p2
                try clear c3
                try clear c5
                try clear c10
                try clear c10b0
                try clear c11
                try clear c11b0
                try clear c16
                try clear p18
                try clear q18
                try clear hx18
                try clear hcz14_0
                try clear hcz14_1
                try clear hcz18_0
                try clear hcz18_1
                try clear hcz8_0
                try clear hcz8_1
                try clear hfz14_0
                try clear hfz14_1
                try clear hfz18_0
                try clear hfz18_1
                try clear hfz8_0
                try clear hfz8_1
                try clear hx180_0
                try clear hx180_1
                try clear hx186_0
                try clear hx186_1
                try clear p180
                try clear p186
                try clear p2
                try clear q180
                try clear q186
                obtain ⟨kq, x52_12, rfl, HA, HJ12, BK176, HB⟩ := hcut
                cases kq with
                | zero => exact absurd HA.out (by simp [crossroadslaw10_ProgTexts.j1])
                | succ kj12 =>
                  have H := HA.out
                  clear HA
                  simp only [crossroadslaw10_ProgTexts.j1] at H
                  by_cases c20 : x52_12 = true
                  · subst c20
                    have H1 : ((crossroadslaw10_decimal.f kj12 x4_1).bind fun t188 => (if x3_1.size + t188.size ≤ 9223372036854775807 then (if (x3_1 ++ t188).size + 3 ≤ 9223372036854775807 then (crossroadslaw10_ProgTexts.l0 kj12 ((x3_1 ++ t188) ++ (⟨#[32, 63, 10]⟩ : ByteArray)) (wrap64 (x4_1 + 1)) l0_0 l0_1) else (none)) else (none))) = some r := by rw [if_pos rfl] at H; exact H
                    clear H
                    have H := H1
                    clear H1
                    replace H := Option.bind_eq_some_iff.mp H
                    obtain ⟨t188, A210, H⟩ := H
                    replace H : (if x3_1.size + t188.size ≤ 9223372036854775807 then (if (x3_1 ++ t188).size + 3 ≤ 9223372036854775807 then (crossroadslaw10_ProgTexts.l0 kj12 ((x3_1 ++ t188) ++ (⟨#[32, 63, 10]⟩ : ByteArray)) (wrap64 (x4_1 + 1)) l0_0 l0_1) else (none)) else (none)) = some r := H
                    have A21 := Aside0.mk A210
                    clear A210
                    by_cases c22 : x3_1.size + t188.size ≤ 9223372036854775807
                    · rw [if_pos c22] at H
                      have c22b0 := eq_true c22
                      have c22b1 : decide (x3_1.size + t188.size ≤ 9223372036854775807) = true := decide_eq_true c22
                      try have c22b2 : (9223372036854775807 < x3_1.size + t188.size) = False := eq_false (Nat.not_lt.2 c22)
                      by_cases c23 : (x3_1 ++ t188).size + 3 ≤ 9223372036854775807
                      · rw [if_pos c23] at H
                        have c23b0 := eq_true c23
                        have c23b1 : decide ((x3_1 ++ t188).size + 3 ≤ 9223372036854775807) = true := decide_eq_true c23
                        try have c23b2 : (9223372036854775807 < (x3_1 ++ t188).size + 3) = False := eq_false (Nat.not_lt.2 c23)
                        (try (have c23N := c23; simp [show ((⟨#[32]⟩ : ByteArray).size = 1) from rfl, show ((⟨#[10]⟩ : ByteArray).size = 1) from rfl, show ((⟨#[32, 63, 10]⟩ : ByteArray).size = 3) from rfl] at c23N))
                        (try (have c23M := Nat.not_lt.2 c23; simp only [ByteArray.size_append, show ((⟨#[32]⟩ : ByteArray).size = 1) from rfl, show ((⟨#[10]⟩ : ByteArray).size = 1) from rfl, show ((⟨#[32, 63, 10]⟩ : ByteArray).size = 3) from rfl] at c23M))
                        have H' := Aside0.mk H
                        clear H
                        go_wp2_with (first | ((with_reducible refine gate_callee (f := 18) rfl ?_); refine goesL_ (some 66) rfl rfl Tryd.func18 (by kernel_rfl) rfl #[.int .i64 x4_1] rfl (by (try simp only [List.map_toArray, List.map_cons, List.map_nil]); first | done | rfl | (simp only [List.length_drop, List.length_take]; rfl)) ?_; (with_reducible refine (crossroadslaw10_decimal.calls kj12 x4_1 t188 _ A21.out).mono ?_); rintro e w24 ⟨rfl, hb⟩; refine ⟨_, rfl, ?_⟩; have n0_ := Aside0.mk (blk_below (g := gb176) (o := .cells #[.slice (some ad180) l0_0.length c0_0, .slice A0_1 l0_1.length c0_1] 25 (0, 0)) (by (with_reducible repeat (first | refine blk_drewN ?_ _ | refine blk_drew ?_ | refine blk_alloc ?_ _)); exact BK176.out) hb); have n1_ := Aside0.mk (below_step (by repeat (first | (with_reducible first | exact HB.out | apply below_alloc | apply pw_below_drewN | apply below_drew1 | refine below_set ?_ GE176.out) | exact HB.out)) hb); clear BK176; clear HB; have BK176 := n0_; have HB := n1_; clear n0_ n1_; (try clear hb); (try clear hb2); (try clear hk); (try clear hi)))
                        go_roundg kj12
                        case measure => have := HK1.out; have := HJ12.out; omega
                        case rel => exact ⟨((x3_1 ++ t188) ++ (⟨#[32, 63, 10]⟩ : ByteArray)), (wrap64 (x4_1 + 1)), (by first | rfl | (simp; done) | (simp [*]; done)), (by first | rfl | (simp; done) | (simp [*]; done)), H', ⟨by have := HK1.out; have := HJ12.out; omega⟩, ⟨by (with_reducible repeat (first | refine blk_drewN ?_ _ | refine blk_drew ?_ | refine blk_alloc ?_ _)); exact BK176.out⟩, ⟨by repeat (first | (with_reducible first | exact HB.out | apply below_alloc | apply pw_below_drewN | apply below_drew1 | refine below_set ?_ GE176.out) | exact HB.out)⟩⟩
                      · rw [if_neg c23] at H
                        exact absurd H (by simp)
                    · rw [if_neg c22] at H
                      exact absurd H (by simp)
                  · replace c20 := Bool.eq_false_iff.mpr c20
                    subst c20
                    have H1 : (if t184 = 0 then ((crossroadslaw10_decimal.f kj12 x4_1).bind fun t189 => (if x3_1.size + t189.size ≤ 9223372036854775807 then (if (x3_1 ++ t189).size + 1 ≤ 9223372036854775807 then (if ((x3_1 ++ t189) ++ (⟨#[32]⟩ : ByteArray)).size + t181.size ≤ 9223372036854775807 then (if (((x3_1 ++ t189) ++ (⟨#[32]⟩ : ByteArray)) ++ t181).size + 1 ≤ 9223372036854775807 then (crossroadslaw10_ProgTexts.l0 kj12 ((((x3_1 ++ t189) ++ (⟨#[32]⟩ : ByteArray)) ++ t181) ++ (⟨#[10]⟩ : ByteArray)) (wrap64 (x4_1 + 1)) l0_0 l0_1) else (none)) else (none)) else (none)) else (none))) else ((crossroadslaw10_decimal.f kj12 x4_1).bind fun t190 => (if x3_1.size + t190.size ≤ 9223372036854775807 then (if (x3_1 ++ t190).size + 1 ≤ 9223372036854775807 then (if ((x3_1 ++ t190) ++ (⟨#[32]⟩ : ByteArray)).size + t181.size ≤ 9223372036854775807 then (if (((x3_1 ++ t190) ++ (⟨#[32]⟩ : ByteArray)) ++ t181).size + 1 ≤ 9223372036854775807 then (if 0 ≤ x4_1 then (if x4_1 < (l0_0.length : Int) then ((crossroadslaw10_decimal.f kj12 ((rd_T41 l0_0 x4_1).f1)).bind fun t192 => (if ((((x3_1 ++ t190) ++ (⟨#[32]⟩ : ByteArray)) ++ t181) ++ (⟨#[32]⟩ : ByteArray)).size + t192.size ≤ 9223372036854775807 then (if (((((x3_1 ++ t190) ++ (⟨#[32]⟩ : ByteArray)) ++ t181) ++ (⟨#[32]⟩ : ByteArray)) ++ t192).size + 1 ≤ 9223372036854775807 then (crossroadslaw10_ProgTexts.l0 kj12 ((((((x3_1 ++ t190) ++ (⟨#[32]⟩ : ByteArray)) ++ t181) ++ (⟨#[32]⟩ : ByteArray)) ++ t192) ++ (⟨#[10]⟩ : ByteArray)) (wrap64 (x4_1 + 1)) l0_0 l0_1) else (none)) else (none))) else (none)) else (none)) else (none)) else (none)) else (none)) else (none)))) = some r := by rw [if_neg (show ¬ (false = true) by decide)] at H; exact H
                    clear H
                    have H := H1
                    clear H1
                    by_cases c25 : t184 = 0
                    · rw [if_pos c25] at H
                      have c25b0 : (t184 == 0) = true := beq_iff_eq.mpr c25
                      have c25b1 : (t184 != 0) = false := bne_eq_false_iff_eq.mpr c25
                      clear c25
                      replace H := Option.bind_eq_some_iff.mp H
                      obtain ⟨t189, A260, H⟩ := H
                      replace H : (if x3_1.size + t189.size ≤ 9223372036854775807 then (if (x3_1 ++ t189).size + 1 ≤ 9223372036854775807 then (if ((x3_1 ++ t189) ++ (⟨#[32]⟩ : ByteArray)).size + t181.size ≤ 9223372036854775807 then (if (((x3_1 ++ t189) ++ (⟨#[32]⟩ : ByteArray)) ++ t181).size + 1 ≤ 9223372036854775807 then (crossroadslaw10_ProgTexts.l0 kj12 ((((x3_1 ++ t189) ++ (⟨#[32]⟩ : ByteArray)) ++ t181) ++ (⟨#[10]⟩ : ByteArray)) (wrap64 (x4_1 + 1)) l0_0 l0_1) else (none)) else (none)) else (none)) else (none)) = some r := H
                      have A26 := Aside0.mk A260
                      clear A260
                      by_cases c27 : x3_1.size + t189.size ≤ 9223372036854775807
                      · rw [if_pos c27] at H
                        have c27b0 := eq_true c27
                        have c27b1 : decide (x3_1.size + t189.size ≤ 9223372036854775807) = true := decide_eq_true c27
                        try have c27b2 : (9223372036854775807 < x3_1.size + t189.size) = False := eq_false (Nat.not_lt.2 c27)
                        by_cases c28 : (x3_1 ++ t189).size + 1 ≤ 9223372036854775807
                        · rw [if_pos c28] at H
                          have c28b0 := eq_true c28
                          have c28b1 : decide ((x3_1 ++ t189).size + 1 ≤ 9223372036854775807) = true := decide_eq_true c28
                          try have c28b2 : (9223372036854775807 < (x3_1 ++ t189).size + 1) = False := eq_false (Nat.not_lt.2 c28)
                          (try (have c28N := c28; simp [show ((⟨#[32]⟩ : ByteArray).size = 1) from rfl, show ((⟨#[10]⟩ : ByteArray).size = 1) from rfl, show ((⟨#[32, 63, 10]⟩ : ByteArray).size = 3) from rfl] at c28N))
                          (try (have c28M := Nat.not_lt.2 c28; simp only [ByteArray.size_append, show ((⟨#[32]⟩ : ByteArray).size = 1) from rfl, show ((⟨#[10]⟩ : ByteArray).size = 1) from rfl, show ((⟨#[32, 63, 10]⟩ : ByteArray).size = 3) from rfl] at c28M))
                          by_cases c29 : ((x3_1 ++ t189) ++ (⟨#[32]⟩ : ByteArray)).size + t181.size ≤ 9223372036854775807
                          · rw [if_pos c29] at H
                            have c29b0 := eq_true c29
                            have c29b1 : decide (((x3_1 ++ t189) ++ (⟨#[32]⟩ : ByteArray)).size + t181.size ≤ 9223372036854775807) = true := decide_eq_true c29
                            try have c29b2 : (9223372036854775807 < ((x3_1 ++ t189) ++ (⟨#[32]⟩ : ByteArray)).size + t181.size) = False := eq_false (Nat.not_lt.2 c29)
                            (try (have c29N := c29; simp [show ((⟨#[32]⟩ : ByteArray).size = 1) from rfl, show ((⟨#[10]⟩ : ByteArray).size = 1) from rfl, show ((⟨#[32, 63, 10]⟩ : ByteArray).size = 3) from rfl] at c29N))
                            (try (have c29M := Nat.not_lt.2 c29; simp only [ByteArray.size_append, show ((⟨#[32]⟩ : ByteArray).size = 1) from rfl, show ((⟨#[10]⟩ : ByteArray).size = 1) from rfl, show ((⟨#[32, 63, 10]⟩ : ByteArray).size = 3) from rfl] at c29M))
                            by_cases c30 : (((x3_1 ++ t189) ++ (⟨#[32]⟩ : ByteArray)) ++ t181).size + 1 ≤ 9223372036854775807
                            · rw [if_pos c30] at H
                              have c30b0 := eq_true c30
                              have c30b1 : decide ((((x3_1 ++ t189) ++ (⟨#[32]⟩ : ByteArray)) ++ t181).size + 1 ≤ 9223372036854775807) = true := decide_eq_true c30
                              try have c30b2 : (9223372036854775807 < (((x3_1 ++ t189) ++ (⟨#[32]⟩ : ByteArray)) ++ t181).size + 1) = False := eq_false (Nat.not_lt.2 c30)
                              (try (have c30N := c30; simp [show ((⟨#[32]⟩ : ByteArray).size = 1) from rfl, show ((⟨#[10]⟩ : ByteArray).size = 1) from rfl, show ((⟨#[32, 63, 10]⟩ : ByteArray).size = 3) from rfl] at c30N))
                              (try (have c30M := Nat.not_lt.2 c30; simp only [ByteArray.size_append, show ((⟨#[32]⟩ : ByteArray).size = 1) from rfl, show ((⟨#[10]⟩ : ByteArray).size = 1) from rfl, show ((⟨#[32, 63, 10]⟩ : ByteArray).size = 3) from rfl] at c30M))
                              have H' := Aside0.mk H
                              clear H
                              go_wp2_with (first | ((with_reducible refine gate_callee (f := 18) rfl ?_); refine goesL_ (some 74) rfl rfl Tryd.func18 (by kernel_rfl) rfl #[.int .i64 x4_1] rfl (by (try simp only [List.map_toArray, List.map_cons, List.map_nil]); first | done | rfl | (simp only [List.length_drop, List.length_take]; rfl)) ?_; (with_reducible refine (crossroadslaw10_decimal.calls kj12 x4_1 t189 _ A26.out).mono ?_); rintro e w31 ⟨rfl, hb⟩; refine ⟨_, rfl, ?_⟩; have n0_ := Aside0.mk (blk_below (g := gb176) (o := .cells #[.slice (some ad180) l0_0.length c0_0, .slice A0_1 l0_1.length c0_1] 25 (0, 0)) (by (with_reducible repeat (first | refine blk_drewN ?_ _ | refine blk_drew ?_ | refine blk_alloc ?_ _)); exact BK176.out) hb); have n1_ := Aside0.mk (below_step (by repeat (first | (with_reducible first | exact HB.out | apply below_alloc | apply pw_below_drewN | apply below_drew1 | refine below_set ?_ GE176.out) | exact HB.out)) hb); clear BK176; clear HB; have BK176 := n0_; have HB := n1_; clear n0_ n1_; (try clear hb); (try clear hb2); (try clear hk); (try clear hi)))
                              go_roundg kj12
                              case measure => have := HK1.out; have := HJ12.out; omega
                              case rel => exact ⟨((((x3_1 ++ t189) ++ (⟨#[32]⟩ : ByteArray)) ++ t181) ++ (⟨#[10]⟩ : ByteArray)), (wrap64 (x4_1 + 1)), (by first | rfl | (simp; done) | (simp [*]; done)), (by first | rfl | (simp; done) | (simp [*]; done)), H', ⟨by have := HK1.out; have := HJ12.out; omega⟩, ⟨by (with_reducible repeat (first | refine blk_drewN ?_ _ | refine blk_drew ?_ | refine blk_alloc ?_ _)); exact BK176.out⟩, ⟨by repeat (first | (with_reducible first | exact HB.out | apply below_alloc | apply pw_below_drewN | apply below_drew1 | refine below_set ?_ GE176.out) | exact HB.out)⟩⟩
                            · rw [if_neg c30] at H
                              exact absurd H (by simp)
                          · rw [if_neg c29] at H
                            exact absurd H (by simp)
                        · rw [if_neg c28] at H
                          exact absurd H (by simp)
                      · rw [if_neg c27] at H
                        exact absurd H (by simp)
                    · rw [if_neg c25] at H
                      have c25b0 : (t184 == 0) = false := beq_eq_false_iff_ne.mpr c25
                      have c25b1 : (t184 != 0) = true := bne_iff_ne.mpr c25
                      replace H := Option.bind_eq_some_iff.mp H
                      obtain ⟨t190, A320, H⟩ := H
                      replace H : (if x3_1.size + t190.size ≤ 9223372036854775807 then (if (x3_1 ++ t190).size + 1 ≤ 9223372036854775807 then (if ((x3_1 ++ t190) ++ (⟨#[32]⟩ : ByteArray)).size + t181.size ≤ 9223372036854775807 then (if (((x3_1 ++ t190) ++ (⟨#[32]⟩ : ByteArray)) ++ t181).size + 1 ≤ 9223372036854775807 then (if 0 ≤ x4_1 then (if x4_1 < (l0_0.length : Int) then ((crossroadslaw10_decimal.f kj12 ((rd_T41 l0_0 x4_1).f1)).bind fun t192 => (if ((((x3_1 ++ t190) ++ (⟨#[32]⟩ : ByteArray)) ++ t181) ++ (⟨#[32]⟩ : ByteArray)).size + t192.size ≤ 9223372036854775807 then (if (((((x3_1 ++ t190) ++ (⟨#[32]⟩ : ByteArray)) ++ t181) ++ (⟨#[32]⟩ : ByteArray)) ++ t192).size + 1 ≤ 9223372036854775807 then (crossroadslaw10_ProgTexts.l0 kj12 ((((((x3_1 ++ t190) ++ (⟨#[32]⟩ : ByteArray)) ++ t181) ++ (⟨#[32]⟩ : ByteArray)) ++ t192) ++ (⟨#[10]⟩ : ByteArray)) (wrap64 (x4_1 + 1)) l0_0 l0_1) else (none)) else (none))) else (none)) else (none)) else (none)) else (none)) else (none)) else (none)) = some r := H
                      have A32 := Aside0.mk A320
                      clear A320
                      by_cases c33 : x3_1.size + t190.size ≤ 9223372036854775807
                      · rw [if_pos c33] at H
                        have c33b0 := eq_true c33
                        have c33b1 : decide (x3_1.size + t190.size ≤ 9223372036854775807) = true := decide_eq_true c33
                        try have c33b2 : (9223372036854775807 < x3_1.size + t190.size) = False := eq_false (Nat.not_lt.2 c33)
                        by_cases c34 : (x3_1 ++ t190).size + 1 ≤ 9223372036854775807
                        · rw [if_pos c34] at H
                          have c34b0 := eq_true c34
                          have c34b1 : decide ((x3_1 ++ t190).size + 1 ≤ 9223372036854775807) = true := decide_eq_true c34
                          try have c34b2 : (9223372036854775807 < (x3_1 ++ t190).size + 1) = False := eq_false (Nat.not_lt.2 c34)
                          (try (have c34N := c34; simp [show ((⟨#[32]⟩ : ByteArray).size = 1) from rfl, show ((⟨#[10]⟩ : ByteArray).size = 1) from rfl, show ((⟨#[32, 63, 10]⟩ : ByteArray).size = 3) from rfl] at c34N))
                          (try (have c34M := Nat.not_lt.2 c34; simp only [ByteArray.size_append, show ((⟨#[32]⟩ : ByteArray).size = 1) from rfl, show ((⟨#[10]⟩ : ByteArray).size = 1) from rfl, show ((⟨#[32, 63, 10]⟩ : ByteArray).size = 3) from rfl] at c34M))
                          by_cases c35 : ((x3_1 ++ t190) ++ (⟨#[32]⟩ : ByteArray)).size + t181.size ≤ 9223372036854775807
                          · rw [if_pos c35] at H
                            have c35b0 := eq_true c35
                            have c35b1 : decide (((x3_1 ++ t190) ++ (⟨#[32]⟩ : ByteArray)).size + t181.size ≤ 9223372036854775807) = true := decide_eq_true c35
                            try have c35b2 : (9223372036854775807 < ((x3_1 ++ t190) ++ (⟨#[32]⟩ : ByteArray)).size + t181.size) = False := eq_false (Nat.not_lt.2 c35)
                            (try (have c35N := c35; simp [show ((⟨#[32]⟩ : ByteArray).size = 1) from rfl, show ((⟨#[10]⟩ : ByteArray).size = 1) from rfl, show ((⟨#[32, 63, 10]⟩ : ByteArray).size = 3) from rfl] at c35N))
                            (try (have c35M := Nat.not_lt.2 c35; simp only [ByteArray.size_append, show ((⟨#[32]⟩ : ByteArray).size = 1) from rfl, show ((⟨#[10]⟩ : ByteArray).size = 1) from rfl, show ((⟨#[32, 63, 10]⟩ : ByteArray).size = 3) from rfl] at c35M))
                            by_cases c36 : (((x3_1 ++ t190) ++ (⟨#[32]⟩ : ByteArray)) ++ t181).size + 1 ≤ 9223372036854775807
                            · rw [if_pos c36] at H
                              have c36b0 := eq_true c36
                              have c36b1 : decide ((((x3_1 ++ t190) ++ (⟨#[32]⟩ : ByteArray)) ++ t181).size + 1 ≤ 9223372036854775807) = true := decide_eq_true c36
                              try have c36b2 : (9223372036854775807 < (((x3_1 ++ t190) ++ (⟨#[32]⟩ : ByteArray)) ++ t181).size + 1) = False := eq_false (Nat.not_lt.2 c36)
                              (try (have c36N := c36; simp [show ((⟨#[32]⟩ : ByteArray).size = 1) from rfl, show ((⟨#[10]⟩ : ByteArray).size = 1) from rfl, show ((⟨#[32, 63, 10]⟩ : ByteArray).size = 3) from rfl] at c36N))
                              (try (have c36M := Nat.not_lt.2 c36; simp only [ByteArray.size_append, show ((⟨#[32]⟩ : ByteArray).size = 1) from rfl, show ((⟨#[10]⟩ : ByteArray).size = 1) from rfl, show ((⟨#[32, 63, 10]⟩ : ByteArray).size = 3) from rfl] at c36M))
                              by_cases c37 : 0 ≤ x4_1
                              · rw [if_pos c37] at H
                                have c37b0 : decide (0 ≤ x4_1) = true := decide_eq_true c37
                                clear c37
                                by_cases c38 : x4_1 < (l0_0.length : Int)
                                · rw [if_pos c38] at H
                                  have c38b0 : decide (x4_1 < (l0_0.length : Int)) = true := decide_eq_true c38
                                  clear c38
                                  replace H := Option.bind_eq_some_iff.mp H
                                  obtain ⟨t192, A390, H⟩ := H
                                  replace H : (if ((((x3_1 ++ t190) ++ (⟨#[32]⟩ : ByteArray)) ++ t181) ++ (⟨#[32]⟩ : ByteArray)).size + t192.size ≤ 9223372036854775807 then (if (((((x3_1 ++ t190) ++ (⟨#[32]⟩ : ByteArray)) ++ t181) ++ (⟨#[32]⟩ : ByteArray)) ++ t192).size + 1 ≤ 9223372036854775807 then (crossroadslaw10_ProgTexts.l0 kj12 ((((((x3_1 ++ t190) ++ (⟨#[32]⟩ : ByteArray)) ++ t181) ++ (⟨#[32]⟩ : ByteArray)) ++ t192) ++ (⟨#[10]⟩ : ByteArray)) (wrap64 (x4_1 + 1)) l0_0 l0_1) else (none)) else (none)) = some r := H
                                  have A39 := Aside0.mk A390
                                  clear A390
                                  by_cases c40 : ((((x3_1 ++ t190) ++ (⟨#[32]⟩ : ByteArray)) ++ t181) ++ (⟨#[32]⟩ : ByteArray)).size + t192.size ≤ 9223372036854775807
                                  · rw [if_pos c40] at H
                                    have c40b0 := eq_true c40
                                    have c40b1 : decide (((((x3_1 ++ t190) ++ (⟨#[32]⟩ : ByteArray)) ++ t181) ++ (⟨#[32]⟩ : ByteArray)).size + t192.size ≤ 9223372036854775807) = true := decide_eq_true c40
                                    try have c40b2 : (9223372036854775807 < ((((x3_1 ++ t190) ++ (⟨#[32]⟩ : ByteArray)) ++ t181) ++ (⟨#[32]⟩ : ByteArray)).size + t192.size) = False := eq_false (Nat.not_lt.2 c40)
                                    (try (have c40N := c40; simp [show ((⟨#[32]⟩ : ByteArray).size = 1) from rfl, show ((⟨#[10]⟩ : ByteArray).size = 1) from rfl, show ((⟨#[32, 63, 10]⟩ : ByteArray).size = 3) from rfl] at c40N))
                                    (try (have c40M := Nat.not_lt.2 c40; simp only [ByteArray.size_append, show ((⟨#[32]⟩ : ByteArray).size = 1) from rfl, show ((⟨#[10]⟩ : ByteArray).size = 1) from rfl, show ((⟨#[32, 63, 10]⟩ : ByteArray).size = 3) from rfl] at c40M))
                                    by_cases c41 : (((((x3_1 ++ t190) ++ (⟨#[32]⟩ : ByteArray)) ++ t181) ++ (⟨#[32]⟩ : ByteArray)) ++ t192).size + 1 ≤ 9223372036854775807
                                    · rw [if_pos c41] at H
                                      have c41b0 := eq_true c41
                                      have c41b1 : decide ((((((x3_1 ++ t190) ++ (⟨#[32]⟩ : ByteArray)) ++ t181) ++ (⟨#[32]⟩ : ByteArray)) ++ t192).size + 1 ≤ 9223372036854775807) = true := decide_eq_true c41
                                      try have c41b2 : (9223372036854775807 < (((((x3_1 ++ t190) ++ (⟨#[32]⟩ : ByteArray)) ++ t181) ++ (⟨#[32]⟩ : ByteArray)) ++ t192).size + 1) = False := eq_false (Nat.not_lt.2 c41)
                                      (try (have c41N := c41; simp [show ((⟨#[32]⟩ : ByteArray).size = 1) from rfl, show ((⟨#[10]⟩ : ByteArray).size = 1) from rfl, show ((⟨#[32, 63, 10]⟩ : ByteArray).size = 3) from rfl] at c41N))
                                      (try (have c41M := Nat.not_lt.2 c41; simp only [ByteArray.size_append, show ((⟨#[32]⟩ : ByteArray).size = 1) from rfl, show ((⟨#[10]⟩ : ByteArray).size = 1) from rfl, show ((⟨#[32, 63, 10]⟩ : ByteArray).size = 3) from rfl] at c41M))
                                      have H' := Aside0.mk H
                                      clear H
                                      try go_wp2
                                      have n0_ := Aside0.mk (blk_drew BK176.out)
                                      have n1_ := Aside0.mk (below_drew1 HB.out)
                                      clear BK176
                                      clear HB
                                      have BK176 := n0_
                                      have HB := n1_
                                      clear n0_ n1_
                                      have p191 : 0 ≤ (x4_1 : Int) := of_decide_eq_true (by first | (with_reducible assumption) | assumption)
                                      have q191 : x4_1 < (l0_0.length : Int) := of_decide_eq_true (by first | (with_reducible assumption) | assumption)
                                      obtain ⟨ad191, e191, hx191_0, hx191_1⟩ := at_T41 HR0_0.out x4_1 p191 q191
                                      have hw191_1 := hx191_1
                                      have hw191_0 := hx191_0
                                      obtain rfl : ad180 = ad191 := (by injection e191)
                                      replace hx191_0 := (HB.out.cell (World.block_lt_of_cell? w _ hx191_0)).trans hx191_0
                                      replace hx191_1 := (HB.out.cell (World.block_lt_of_cell? w _ hx191_1)).trans hx191_1
                                      replace p191 := eq_true p191
                                      replace q191 := eq_true q191
                                      refine start_ (n := 18) (S := fun w' => w'.cell? ⟨gb176, 0, none⟩ = some (.slice (some ad180) l0_0.length c0_0) ∧ w'.cell? ⟨gb176, 1, none⟩ = some (.slice A0_1 l0_1.length c0_1) ∧ w'.cell? (ad180.add ((x4_1).toNat * 2)) = some (.int .i64 ((rd_T41 l0_0 x4_1).f0)) ∧ w'.cell? ⟨(ad180.add ((x4_1).toNat * 2)).block, (ad180.add ((x4_1).toNat * 2)).off + 1, none⟩ = some (.int .i64 ((rd_T41 l0_0 x4_1).f1))) (ds := []) #[false, false, false, false, false, false, false, false, false, false, false, false, false, false, false, false, false, false] (by kernel_rfl) rfl rfl ⟨(blk_cell BK176.out 0).trans rfl, (blk_cell BK176.out 1).trans rfl, ((HB.out.cell (World.block_lt_of_cell? w _ hw191_0)).trans hw191_0), ((HB.out.cell (World.block_lt_of_cell? w _ hw191_1)).trans hw191_1)⟩ (fun hHeld => ?_); refine with_tabW crossroadslaw10_ProgTexts.tab10 crossroadslaw10_ProgTexts.bits10 (fun HT_ HW_ => ?_)
                                      generalize wc.drew = w42 at BK176 HB hx191_0 hx191_1 hHeld ⊢
                                      refine pure_ (i := 0) (N := some 35) (v := ?_) (a' := ?_) #[true, false, false, false, false, false, false, false, false, false, false, false, false, false, false, false, false, false] rfl rfl (any_of HT_.out (by kernel_rfl)) (fun _ _ _ h => h) (Or.inl ⟨by rfl, ?_⟩) ?_ ?_
                                      rotate_left
                                      · intro w'
                                        go_simp
                                        with_reducible rfl
                                      rotate_left
                                      · simp only [Act.put, List.setIfInBounds_toArray, List.set_cons_zero, List.set_cons_succ, i64_w, i32_w]
                                        rfl
                                      refine pure_ (i := 1) (N := some 36) (v := ?_) (a' := ?_) #[true, true, false, false, false, false, false, false, false, false, false, false, false, false, false, false, false, false] rfl rfl (any_of HT_.out (by kernel_rfl)) (fun _ _ _ h => h) (Or.inl ⟨by rfl, ?_⟩) ?_ ?_
                                      rotate_left
                                      · intro w'
                                        go_simp
                                        with_reducible rfl
                                      rotate_left
                                      · simp only [Act.put, List.setIfInBounds_toArray, List.set_cons_zero, List.set_cons_succ, i64_w, i32_w]
                                        rfl
                                      refine pure_ (i := 5) (N := some 40) (v := ?_) (a' := ?_) #[true, true, false, false, false, true, false, false, false, false, false, false, false, false, false, false, false, false] rfl rfl (any_of HT_.out (by kernel_rfl)) (fun _ _ _ h => h) (Or.inl ⟨by rfl, ?_⟩) ?_ ?_
                                      rotate_left
                                      · intro w'
                                        go_simp
                                        with_reducible rfl
                                      rotate_left
                                      · simp only [Act.put, List.setIfInBounds_toArray, List.set_cons_zero, List.set_cons_succ, i64_w, i32_w]
                                        rfl
                                      refine pure_ (i := 8) (N := some 43) (v := ?_) (a' := ?_) #[true, true, false, false, false, true, false, false, true, false, false, false, false, false, false, false, false, false] rfl rfl (any_of HT_.out (by kernel_rfl)) (fun _ _ _ h => h) (Or.inl ⟨by rfl, ?_⟩) ?_ ?_
                                      rotate_left
                                      · intro w'
                                        go_simp
                                        with_reducible rfl
                                      rotate_left
                                      · simp only [Act.put, List.setIfInBounds_toArray, List.set_cons_zero, List.set_cons_succ, i64_w, i32_w]
                                        rfl
                                      refine pure_ (i := 10) (N := some 45) (v := ?_) (a' := ?_) #[true, true, false, false, false, true, false, false, true, false, true, false, false, false, false, false, false, false] rfl rfl (any_of HT_.out (by kernel_rfl)) (fun _ _ _ h => h) (Or.inl ⟨by rfl, ?_⟩) ?_ ?_
                                      rotate_left
                                      · intro w'
                                        go_simp
                                        with_reducible rfl
                                      rotate_left
                                      · simp only [Act.put, List.setIfInBounds_toArray, List.set_cons_zero, List.set_cons_succ, i64_w, i32_w]
                                        rfl
                                      refine take_ (i := 9) (N := some 44) (v := ?_) (a' := ?_) #[true, true, false, false, false, true, false, false, true, true, true, false, false, false, false, false, false, false] rfl rfl (take_ofW HT_.out HW_.out (by kernel_rfl)) (fun _ _ _ h => h) (Or.inl ⟨by rfl, ?_⟩) hHeld ?_ ?_
                                      rotate_left
                                      · rintro w' ⟨s0, s1, s2, s3⟩
                                        go_simp
                                        with_reducible rfl
                                      rotate_left
                                      · simp only [Act.put, List.setIfInBounds_toArray, List.set_cons_zero, List.set_cons_succ, i64_w, i32_w]
                                        rfl
                                      refine pure_ (i := 11) (N := some 46) (v := ?_) (a' := ?_) #[true, true, false, false, false, true, false, false, true, true, true, true, false, false, false, false, false, false] rfl rfl (any_of HT_.out (by kernel_rfl)) (fun _ _ _ h => h) (Or.inl ⟨by rfl, ?_⟩) ?_ ?_
                                      rotate_left
                                      · intro w'
                                        go_simp
                                        with_reducible rfl
                                      rotate_left
                                      · simp only [Act.put, List.setIfInBounds_toArray, List.set_cons_zero, List.set_cons_succ, i64_w, i32_w]
                                        rfl
                                      refine pure_ (i := 12) (N := some 47) (v := ?_) (a' := ?_) #[true, true, false, false, false, true, false, false, true, true, true, true, true, false, false, false, false, false] rfl rfl (any_of HT_.out (by kernel_rfl)) (fun _ _ _ h => h) (Or.inl ⟨by rfl, ?_⟩) ?_ ?_
                                      rotate_left
                                      · intro w'
                                        go_simp
                                        with_reducible rfl
                                      rotate_left
                                      · simp only [Act.put, List.setIfInBounds_toArray, List.set_cons_zero, List.set_cons_succ, i64_w, i32_w]
                                        rfl
                                      refine take_ (i := 13) (N := some 48) (v := ?_) (a' := ?_) #[true, true, false, false, false, true, false, false, true, true, true, true, true, true, false, false, false, false] rfl rfl (take_ofW HT_.out HW_.out (by kernel_rfl)) (fun _ _ _ h => h) (Or.inl ⟨by rfl, ?_⟩) hHeld ?_ ?_
                                      rotate_left
                                      · rintro w' ⟨s0, s1, s2, s3⟩
                                        go_simp
                                        with_reducible rfl
                                      rotate_left
                                      · simp only [Act.put, List.setIfInBounds_toArray, List.set_cons_zero, List.set_cons_succ, i64_w, i32_w]
                                        rfl
                                      refine one_ (i := 2) (N := some 37) #[true, true, true, false, false, true, false, false, true, true, true, true, true, true, false, false, false, false] rfl rfl (one_of HT_.out (by kernel_rfl)) (by decide) (fun K hK => ?_)
                                      refine goes_ Tryd.func18 (by kernel_rfl) rfl #[.int .i64 x4_1] (by rfl) rfl rfl (by (try simp only [List.map_toArray, List.map_cons, List.map_nil]); first | done | rfl | (simp only [List.length_drop, List.length_take]; rfl)) ?_
                                      with_reducible refine (crossroadslaw10_decimal.calls kj12 x4_1 t190 _ A32.out).mono ?_
                                      rintro e w43 ⟨rfl, hb⟩
                                      refine ⟨_, rfl, ?_⟩
                                      have n0_ := Aside0.mk (blk_below (g := gb176) (o := .cells #[.slice (some ad180) l0_0.length c0_0, .slice A0_1 l0_1.length c0_1] 25 (0, 0)) (by (with_reducible repeat (first | refine blk_drewN ?_ _ | refine blk_drew ?_ | refine blk_alloc ?_ _)); exact BK176.out) hb)
                                      have n1_ := Aside0.mk (below_step (by repeat (first | (with_reducible first | exact HB.out | apply below_alloc | apply pw_below_drewN | apply below_drew1 | refine below_set ?_ GE176.out) | exact HB.out)) hb)
                                      clear BK176
                                      clear HB
                                      have BK176 := n0_
                                      have HB := n1_
                                      clear n0_ n1_
                                      (try clear hb)
                                      (try clear hb2)
                                      (try clear hk)
                                      (try clear hi)
                                      refine hK.out _ _ ⟨(blk_cell BK176.out 0).trans rfl, (blk_cell BK176.out 1).trans rfl, ((HB.out.cell (World.block_lt_of_cell? w _ hw191_0)).trans hw191_0), ((HB.out.cell (World.block_lt_of_cell? w _ hw191_1)).trans hw191_1)⟩ (fun hHeld => ?_)
                                      clear hK K
                                      refine norm_ (a' := ?_) ?_ ?_
                                      rotate_left
                                      · show Act.put _ (some 37) _ = _
                                        simp only [Act.put, List.setIfInBounds_toArray, List.set_cons_zero, List.set_cons_succ, i64_w, i32_w]
                                        rfl
                                      refine pure_ (i := 3) (N := some 38) (v := ?_) (a' := ?_) #[true, true, true, true, false, true, false, false, true, true, true, true, true, true, false, false, false, false] rfl rfl (any_of HT_.out (by kernel_rfl)) (fun _ _ _ h => h) (Or.inl ⟨by rfl, ?_⟩) ?_ ?_
                                      rotate_left
                                      · intro w'
                                        go_simp
                                        with_reducible rfl
                                      rotate_left
                                      · simp only [Act.put, List.setIfInBounds_toArray, List.set_cons_zero, List.set_cons_succ, i64_w, i32_w]
                                        rfl
                                      refine pure_ (i := 4) (N := some 39) (v := ?_) (a' := ?_) #[true, true, true, true, true, true, false, false, true, true, true, true, true, true, false, false, false, false] rfl rfl (any_of HT_.out (by kernel_rfl)) (fun _ _ _ h => h) (Or.inl ⟨by rfl, ?_⟩) ?_ ?_
                                      rotate_left
                                      · intro w'
                                        go_simp
                                        with_reducible rfl
                                      rotate_left
                                      · simp only [Act.put, List.setIfInBounds_toArray, List.set_cons_zero, List.set_cons_succ, i64_w, i32_w]
                                        rfl
                                      refine pure_ (i := 6) (N := some 41) (v := ?_) (a' := ?_) #[true, true, true, true, true, true, true, false, true, true, true, true, true, true, false, false, false, false] rfl rfl (any_of HT_.out (by kernel_rfl)) (fun _ _ _ h => h) (Or.inl ⟨by rfl, ?_⟩) ?_ ?_
                                      rotate_left
                                      · intro w'
                                        go_simp
                                        with_reducible rfl
                                      rotate_left
                                      · simp only [Act.put, List.setIfInBounds_toArray, List.set_cons_zero, List.set_cons_succ, i64_w, i32_w]
                                        rfl
                                      refine pure_ (i := 7) (N := some 42) (v := ?_) (a' := ?_) #[true, true, true, true, true, true, true, true, true, true, true, true, true, true, false, false, false, false] rfl rfl (any_of HT_.out (by kernel_rfl)) (fun _ _ _ h => h) (Or.inl ⟨by rfl, ?_⟩) ?_ ?_
                                      rotate_left
                                      · intro w'
                                        go_simp
                                        with_reducible rfl
                                      rotate_left
                                      · simp only [Act.put, List.setIfInBounds_toArray, List.set_cons_zero, List.set_cons_succ, i64_w, i32_w]
                                        rfl
                                      refine one_ (i := 14) (N := some 49) #[true, true, true, true, true, true, true, true, true, true, true, true, true, true, true, false, false, false] rfl rfl (one_of HT_.out (by kernel_rfl)) (by decide) (fun K hK => ?_)
                                      refine goes_ Tryd.func18 (by kernel_rfl) rfl #[.int .i64 ((rd_T41 l0_0 x4_1).f1)] (by rfl) rfl rfl (by (try simp only [List.map_toArray, List.map_cons, List.map_nil]); first | done | rfl | (simp only [List.length_drop, List.length_take]; rfl)) ?_
                                      with_reducible refine (crossroadslaw10_decimal.calls kj12 ((rd_T41 l0_0 x4_1).f1) t192 _ A39.out).mono ?_
                                      rintro e w44 ⟨rfl, hb⟩
                                      refine ⟨_, rfl, ?_⟩
                                      have n0_ := Aside0.mk (blk_below (g := gb176) (o := .cells #[.slice (some ad180) l0_0.length c0_0, .slice A0_1 l0_1.length c0_1] 25 (0, 0)) (by (with_reducible repeat (first | refine blk_drewN ?_ _ | refine blk_drew ?_ | refine blk_alloc ?_ _)); exact BK176.out) hb)
                                      have n1_ := Aside0.mk (below_step (by repeat (first | (with_reducible first | exact HB.out | apply below_alloc | apply pw_below_drewN | apply below_drew1 | refine below_set ?_ GE176.out) | exact HB.out)) hb)
                                      clear BK176
                                      clear HB
                                      have BK176 := n0_
                                      have HB := n1_
                                      clear n0_ n1_
                                      (try clear hb)
                                      (try clear hb2)
                                      (try clear hk)
                                      (try clear hi)
                                      refine hK.out _ _ ⟨(blk_cell BK176.out 0).trans rfl, (blk_cell BK176.out 1).trans rfl, ((HB.out.cell (World.block_lt_of_cell? w _ hw191_0)).trans hw191_0), ((HB.out.cell (World.block_lt_of_cell? w _ hw191_1)).trans hw191_1)⟩ (fun hHeld => ?_)
                                      clear hK K
                                      refine norm_ (a' := ?_) ?_ ?_
                                      rotate_left
                                      · show Act.put _ (some 49) _ = _
                                        simp only [Act.put, List.setIfInBounds_toArray, List.set_cons_zero, List.set_cons_succ, i64_w, i32_w]
                                        rfl
                                      refine pure_ (i := 15) (N := some 50) (v := ?_) (a' := ?_) #[true, true, true, true, true, true, true, true, true, true, true, true, true, true, true, true, false, false] rfl rfl (any_of HT_.out (by kernel_rfl)) (fun _ _ _ h => h) (Or.inl ⟨by rfl, ?_⟩) ?_ ?_
                                      rotate_left
                                      · intro w'
                                        go_simp
                                        with_reducible rfl
                                      rotate_left
                                      · simp only [Act.put, List.setIfInBounds_toArray, List.set_cons_zero, List.set_cons_succ, i64_w, i32_w]
                                        rfl
                                      refine pure_ (i := 16) (N := some 51) (v := ?_) (a' := ?_) #[true, true, true, true, true, true, true, true, true, true, true, true, true, true, true, true, true, false] rfl rfl (any_of HT_.out (by kernel_rfl)) (fun _ _ _ h => h) (Or.inl ⟨by rfl, ?_⟩) ?_ ?_
                                      rotate_left
                                      · intro w'
                                        go_simp
                                        with_reducible rfl
                                      rotate_left
                                      · simp only [Act.put, List.setIfInBounds_toArray, List.set_cons_zero, List.set_cons_succ, i64_w, i32_w]
                                        rfl
                                      refine pure_ (i := 17) (N := some 3) (v := ?_) (a' := ?_) #[true, true, true, true, true, true, true, true, true, true, true, true, true, true, true, true, true, true] rfl rfl (any_of HT_.out (by kernel_rfl)) (fun _ _ _ h => h) (Or.inl ⟨by rfl, ?_⟩) ?_ ?_
                                      rotate_left
                                      · intro w'
                                        go_simp
                                        with_reducible rfl
                                      rotate_left
                                      · simp only [Act.put, List.setIfInBounds_toArray, List.set_cons_zero, List.set_cons_succ, i64_w, i32_w]
                                        rfl
                                      refine done_ (done_of HT_.out (by kernel_rfl)) ?_
                                      try go_wp2
                                      go_roundg kj12
                                      case measure => have := HK1.out; have := HJ12.out; omega
                                      case rel => exact ⟨((((((x3_1 ++ t190) ++ (⟨#[32]⟩ : ByteArray)) ++ t181) ++ (⟨#[32]⟩ : ByteArray)) ++ t192) ++ (⟨#[10]⟩ : ByteArray)), (wrap64 (x4_1 + 1)), (by first | rfl | (simp; done) | (simp [*]; done)), (by first | rfl | (simp; done) | (simp [*]; done)), H', ⟨by have := HK1.out; have := HJ12.out; omega⟩, ⟨by (with_reducible repeat (first | refine blk_drewN ?_ _ | refine blk_drew ?_ | refine blk_alloc ?_ _)); exact BK176.out⟩, ⟨by repeat (first | (with_reducible first | exact HB.out | apply below_alloc | apply pw_below_drewN | apply below_drew1 | refine below_set ?_ GE176.out) | exact HB.out)⟩⟩
                                    · rw [if_neg c41] at H
                                      exact absurd H (by simp)
                                  · rw [if_neg c40] at H
                                    exact absurd H (by simp)
                                · rw [if_neg c38] at H
                                  exact absurd H (by simp)
                              · rw [if_neg c37] at H
                                exact absurd H (by simp)
                            · rw [if_neg c36] at H
                              exact absurd H (by simp)
                          · rw [if_neg c35] at H
                            exact absurd H (by simp)
                        · rw [if_neg c34] at H
                          exact absurd H (by simp)
                      · rw [if_neg c33] at H
                        exact absurd H (by simp)
            · rw [if_neg c11] at H
              exact absurd H (by simp)
          · rw [if_neg c10] at H
            have c10b0 : decide (x4_1 < (l0_0.length : Int)) = false := decide_eq_false c10
            clear c10
            replace H := Option.bind_eq_some_iff.mp H
            obtain ⟨t179, A450, H⟩ := H
            replace H : (some (t179.toList == x3_1.toList)) = some r := H
            have A45 := Aside0.mk A450
            clear A450
            obtain rfl := Option.some.inj H
            have hcz46_0 : wr.cell? ⟨gb176, 0, none⟩ = some (.slice A0_0 l0_0.length c0_0) := (blk_cell BK176.out 0).trans rfl
            have hcz46_1 : wr.cell? ⟨gb176, 1, none⟩ = some (.slice A0_1 l0_1.length c0_1) := (blk_cell BK176.out 1).trans rfl
            have hfz46_0 := blk_frozen BK176.out 0
            have hfz46_1 := blk_frozen BK176.out 1
            go_wp2_with (first | ((with_reducible refine gate_callee (f := 19) rfl ?_); refine goesL_ (some 81) rfl rfl Tryd.func19 (by kernel_rfl) rfl #[.agg #[.slice A0_0 l0_0.length c0_0, .slice A0_1 l0_1.length c0_1]] rfl (by (try simp only [List.map_toArray, List.map_cons, List.map_nil]); first | done | rfl | (simp only [List.length_drop, List.length_take]; rfl)) ?_; (with_reducible refine (prog_Text.calls _ _ l0_0 _ _ l0_1 t179 _ (hLW.below (by repeat (first | (with_reducible first | exact HB.out | apply below_alloc | apply pw_below_drewN | apply below_drew1) | exact HB.out))) ?side1 ?side2 ?side3 ?side4 A45.out).mono ?_); (case side1 => repeat (first | exact (Kd.C_below HR0_0.out HB.out) | (with_reducible refine Kd.C_alloc ?_ _) | (with_reducible refine Kd.C_drewN ?_ _) | (with_reducible refine Kd.C_drew ?_))); (case side2 => exact HC0_0.out); (case side3 => repeat (first | exact (Kd.C_below HR0_1.out HB.out) | (with_reducible refine Kd.C_alloc ?_ _) | (with_reducible refine Kd.C_drewN ?_ _) | (with_reducible refine Kd.C_drew ?_))); (case side4 => exact HC0_1.out); rintro e w47 ⟨rfl, hb⟩; refine ⟨_, rfl, ?_⟩; have n0_ := Aside0.mk (blk_below (g := gb176) (o := .cells #[.slice A0_0 l0_0.length c0_0, .slice A0_1 l0_1.length c0_1] 25 (0, 0)) (by (with_reducible repeat (first | refine blk_drewN ?_ _ | refine blk_drew ?_ | refine blk_alloc ?_ _)); exact BK176.out) hb); have n1_ := Aside0.mk (below_step (by repeat (first | (with_reducible first | exact HB.out | apply below_alloc | apply pw_below_drewN | apply below_drew1 | refine below_set ?_ GE176.out) | exact HB.out)) hb); clear BK176; clear HB; have BK176 := n0_; have HB := n1_; clear n0_ n1_; (try clear hb); (try clear hb2); (try clear hk); (try clear hi)))
            go_ret
            exact ⟨by first | rfl | (simp [errW_none, errW_some] <;> rfl) | (simp [*, errW_none, errW_some] <;> rfl), by repeat (first | (with_reducible first | exact HB.out | apply below_alloc | apply pw_below_drewN | apply below_drew1 | refine below_set ?_ GE176.out) | exact HB.out)⟩
    · replace c5 := Bool.eq_false_iff.mpr c5
      subst c5
      have H1 : (some true) = some r := by rw [if_neg (show ¬ (false = true) by decide)] at H; exact H
      clear H
      have H := H1
      clear H1
      obtain rfl := Option.some.inj H
      go_enter Tryd.func5, Tryd.ntmps5
      go_wp2_with (first | ((with_reducible refine gate_dst (N := 1) rfl ?_); refine box_event ?hg (N := 1) ?hd (cs := #[.slice A0_0 l0_0.length c0_0, .slice A0_1 l0_1.length c0_1]) (t := 25) ?hr ?_; (case hd => rfl); (case hg => rfl); (case hr => first | (go_simp; done) | (go_simp; rfl)); intro gb176 hg w48 hbox hb; have n0_ := Aside0.mk (below_step (by repeat (first | (with_reducible first | exact HB.out | apply below_alloc | apply pw_below_drewN | apply below_drew1) | exact HB.out)) hb); have n1_ := Aside0.mk (hbox); have n2_ := Aside0.mk ((by rw [hg]; exact (below_size (by repeat (first | (with_reducible first | exact HB.out | apply below_alloc | apply pw_below_drewN | apply below_drew1) | exact HB.out))) : w.heap.size ≤ gb176)); have n3_ := Aside0.mk ((by rw [hg]; exact (below_size (by repeat (first | (with_reducible first | exact HB.out | apply below_alloc | apply pw_below_drewN | apply below_drew1) | exact HB.out))) : w.heap.size ≤ gb176)); clear HB; have HB := n0_; have BK176 := n1_; have GW176 := n2_; have GE176 := n3_; clear n0_ n1_ n2_ n3_; clear hb hbox hg) | ((with_reducible refine gate_callee (f := 10) rfl ?_); refine goesL_ (some 10) rfl rfl Tryd.func10 (by kernel_rfl) rfl #[] rfl (by (try simp only [List.map_toArray, List.map_cons, List.map_nil]); first | done | rfl | (simp only [List.length_drop, List.length_take]; rfl)) ?_; (with_reducible refine (crossroadslaw10_awake.calls true _ (hLW.below (by repeat (first | (with_reducible first | exact HB.out | apply below_alloc | apply pw_below_drewN | apply below_drew1) | exact HB.out))) A2.out).mono ?_); rintro e w49 ⟨rfl, hb⟩; refine ⟨_, rfl, ?_⟩; have n0_ := Aside0.mk (blk_below (g := gb176) (o := .cells #[.slice A0_0 l0_0.length c0_0, .slice A0_1 l0_1.length c0_1] 25 (0, 0)) (by (with_reducible repeat (first | refine blk_drewN ?_ _ | refine blk_drew ?_ | refine blk_alloc ?_ _)); exact BK176.out) hb); have n1_ := Aside0.mk (below_step (by repeat (first | (with_reducible first | exact HB.out | apply below_alloc | apply pw_below_drewN | apply below_drew1 | refine below_set ?_ GE176.out) | exact HB.out)) hb); clear BK176; clear HB; have BK176 := n0_; have HB := n1_; clear n0_ n1_; (try clear hb); (try clear hb2); (try clear hk); (try clear hi); have hcz50_0 : w49.cell? ⟨gb176, 0, none⟩ = some (.slice A0_0 l0_0.length c0_0) := (blk_cell BK176.out 0).trans rfl; have hcz50_1 : w49.cell? ⟨gb176, 1, none⟩ = some (.slice A0_1 l0_1.length c0_1) := (blk_cell BK176.out 1).trans rfl; have hfz50_0 := blk_frozen BK176.out 0; have hfz50_1 := blk_frozen BK176.out 1) | ((with_reducible refine gate_callee (f := 11) rfl ?_); refine goesL_ (some 13) rfl rfl Tryd.func11 (by kernel_rfl) rfl #[.agg #[.slice A0_0 l0_0.length c0_0, .slice A0_1 l0_1.length c0_1]] rfl (by (try simp only [List.map_toArray, List.map_cons, List.map_nil]); first | done | rfl | (simp only [List.length_drop, List.length_take]; rfl)) ?_; (with_reducible refine (crossroadslaw10_Small.calls k _ _ l0_0 _ _ l0_1 false _ ?side1 ?side2 ?side3 ?side4 A4.out).mono ?_); (case side1 => repeat (first | exact (Kd.C_below HR0_0.out HB.out) | (with_reducible refine Kd.C_alloc ?_ _) | (with_reducible refine Kd.C_drewN ?_ _) | (with_reducible refine Kd.C_drew ?_))); (case side2 => exact HC0_0.out); (case side3 => repeat (first | exact (Kd.C_below HR0_1.out HB.out) | (with_reducible refine Kd.C_alloc ?_ _) | (with_reducible refine Kd.C_drewN ?_ _) | (with_reducible refine Kd.C_drew ?_))); (case side4 => exact HC0_1.out); rintro e w51 ⟨rfl, hb⟩; refine ⟨_, rfl, ?_⟩; have n0_ := Aside0.mk (blk_below (g := gb176) (o := .cells #[.slice A0_0 l0_0.length c0_0, .slice A0_1 l0_1.length c0_1] 25 (0, 0)) (by (with_reducible repeat (first | refine blk_drewN ?_ _ | refine blk_drew ?_ | refine blk_alloc ?_ _)); exact BK176.out) hb); have n1_ := Aside0.mk (below_step (by repeat (first | (with_reducible first | exact HB.out | apply below_alloc | apply pw_below_drewN | apply below_drew1 | refine below_set ?_ GE176.out) | exact HB.out)) hb); clear BK176; clear HB; have BK176 := n0_; have HB := n1_; clear n0_ n1_; (try clear hb); (try clear hb2); (try clear hk); (try clear hi)))
      go_ret
      exact ⟨by first | rfl | (simp [errW_none, errW_some] <;> rfl) | (simp [*, errW_none, errW_some] <;> rfl), by repeat (first | (with_reducible first | exact HB.out | apply below_alloc | apply pw_below_drewN | apply below_drew1 | refine below_set ?_ GE176.out) | exact HB.out)⟩
  · replace c3 := Bool.eq_false_iff.mpr c3
    subst c3
    have H1 : (none) = some r := by rw [if_neg (show ¬ (false = true) by decide)] at H; exact H
    clear H
    have H := H1
    clear H1
    exact absurd H (by simp)

/-- THE ONE PURE STATEMENT of crossroadslaw10_ProgTexts. -/
def crossroadslaw10_ProgTexts.Pure : Prop := ∀ (l0_0 : List (S41)) (l0_1 : List ByteArray), (l0_0.length * 16 ≤ 140737488351232 ∧ l0_0.length ≤ 9223372036854775807 ∧ ∀ y1_ ∈ l0_0, ((Lit.int .i64 y1_.f0).wf = true ∧ (Lit.int .i64 y1_.f1).wf = true)) → (l0_1.length * 16 ≤ 140737488351232 ∧ l0_1.length ≤ 9223372036854775807 ∧ ∀ y2_ ∈ l0_1, y2_.size ≤ 140737488351232) → ∃ k, crossroadslaw10_ProgTexts.f k l0_0 l0_1 = some true

-- NOT PRINTED: function 6 (crossroadslaw10_ProgKnown)

end Go.Proofs.YtckmgoeflecpgaaDoor.P
