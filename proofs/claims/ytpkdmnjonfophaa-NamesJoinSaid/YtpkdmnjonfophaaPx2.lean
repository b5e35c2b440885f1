-- Laid by a program of this session (the kit's print, changed): Lean checks it.
import Derived.Test.YtpkdmnjonfophaaPx0
import Derived.Test.YtpkdmnjonfophaaPx1
import Derived.Test.YtpkdmnjonfophaaGName
namespace Go.Proofs.Ytpkdmnjonfophaa.G
end Go.Proofs.Ytpkdmnjonfophaa.G
namespace Go.Proofs.Ytpkdmnjonfophaa.P
open Go.Proofs.Ytpkdmnjonfophaa.G
open Go.RowKit Go.Proofs.YtpkdmnjonfophaaW.PrintWords Go.Proofs.YtpkdmnjonfophaaW.PrintLast Go.Proofs.YtpkdmnjonfophaaW.PrintMore
attribute [local go_sem] max2_int min2_int max_two min_two max_three min_three max_four min_four   -- for this text's walks alone
set_option linter.unusedVariables false
set_option linter.unusedSimpArgs false

/-! ### crossroadsref12_Split: function 9 -/
def crossroadsref12_Split.l0 : Nat → ByteArray → Int → Option (ByteArray × ByteArray)
  | 0, _, _ => none
  | k + 1, x0, x4 => if x4 < (x0.size : Int) then (if 0 ≤ x4 then (if (bt x0 x4) = 47 then (if x4 ≤ (x0.size : Int) then (if 0 ≤ (wrap64 (x4 + 1)) then (if (wrap64 (x4 + 1)) ≤ (x0.size : Int) then (some (x0.extract 0 (x4 : Int).toNat, x0.extract ((wrap64 (x4 + 1)) : Int).toNat x0.size)) else (none)) else (none)) else (none)) else (crossroadsref12_Split.l0 k x0 (wrap64 (x4 + 1)))) else (none)) else (some ((⟨#[]⟩ : ByteArray), x0))
def crossroadsref12_Split.f (k : Nat) (a0 : ByteArray) : Option (ByteArray × ByteArray) := (crossroadsref12_NameMay.f a0).bind fun t131 => (if t131 = true then (crossroadsref12_Split.l0 k a0 0) else (some ((⟨#[]⟩ : ByteArray), (⟨#[]⟩ : ByteArray))))
theorem crossroadsref12_Split.mono_l : ∀ k, (∀ y0 y1, LeO (crossroadsref12_Split.l0 k y0 y1) (crossroadsref12_Split.l0 (k + 1) y0 y1))
  | 0 => fun _ _ r h => by simp [crossroadsref12_Split.l0] at h
  | k + 1 => by
    have ih0 := crossroadsref12_Split.mono_l k
    · intro y0 y1
      unfold crossroadsref12_Split.l0
      repeat' first
      | (with_reducible exact ih0 _ _)
      | (with_reducible exact LeO.refl _)
      | (with_reducible exact LeO.none _)
      | (with_reducible refine LeO.ite ?_ ?_)
      | (with_reducible refine LeO.bind ?_ (fun _ => ?_))
      | exact ih0 _ _
      | exact LeO.none _
      | refine LeO.ite ?_ ?_
      | refine LeO.bind ?_ (fun _ => ?_)
theorem crossroadsref12_Split.mono : ∀ a0 k, LeO (crossroadsref12_Split.f k a0) (crossroadsref12_Split.f (k + 1) a0) := by
  intro a0 k
  have ih0 := crossroadsref12_Split.mono_l k
  unfold crossroadsref12_Split.f
  repeat' first
      | (with_reducible exact ih0 _ _)
      | (with_reducible exact LeO.refl _)
      | (with_reducible exact LeO.none _)
      | (with_reducible refine LeO.ite ?_ ?_)
      | (with_reducible refine LeO.bind ?_ (fun _ => ?_))
      | exact ih0 _ _
      | exact LeO.none _
      | refine LeO.ite ?_ ?_
      | refine LeO.bind ?_ (fun _ => ?_)
set_option maxHeartbeats 8000000 in
set_option maxRecDepth 100000 in
theorem crossroadsref12_Split.calls (k : Nat) (a0 : ByteArray) (r1 : ByteArray) (r2 : ByteArray) (w : World) (h : crossroadsref12_Split.f k a0 = some (r1, r2)) :
    Calls Try.prog 9 #[.string a0] w fun e w' => e = .returned (.tuple #[.string r1, .string r2]) ∧ Below w.heap.size w w' := by
  have HB := Aside0.mk (Below.refl w.heap.size w)
  have H : ((crossroadsref12_NameMay.f a0).bind fun t131 => (if t131 = true then (crossroadsref12_Split.l0 k a0 0) else (some ((⟨#[]⟩ : ByteArray), (⟨#[]⟩ : ByteArray))))) = some (r1, r2) := h
  clear h
  replace H := Option.bind_eq_some_iff.mp H
  obtain ⟨t131, A20, H⟩ := H
  replace H : (if t131 = true then (crossroadsref12_Split.l0 k a0 0) else (some ((⟨#[]⟩ : ByteArray), (⟨#[]⟩ : ByteArray)))) = some (r1, r2) := H
  have A2 := Aside0.mk A20
  clear A20
  by_cases c3 : t131 = true
  · subst c3
    have H1 : (crossroadsref12_Split.l0 k a0 0) = some (r1, r2) := by rw [if_pos rfl] at H; exact H
    clear H
    have H := H1
    clear H1
    have H' := Aside0.mk H
    clear H
    go_enter Try.func9, Try.ntmps9
    go_wp2_with (first | (go_at_call 10; (with_reducible refine (crossroadsref12_NameMay.calls a0 true _ A2.out).mono ?_); rintro e w4 ⟨rfl, hb⟩; have n0_ := Aside0.mk (below_step (by repeat (first | (with_reducible first | exact HB.out | apply below_alloc | apply pw_below_drewN | apply below_drew1) | exact HB.out)) hb); clear HB; have HB := n0_; clear n0_; (try clear hb); (try clear hb2); (try clear hk); (try clear hi)))
    repeat (go_quiet (first | (go_at_call 10; (with_reducible refine (crossroadsref12_NameMay.calls a0 true _ A2.out).mono ?_); rintro e w4 ⟨rfl, hb⟩; have n0_ := Aside0.mk (below_step (by repeat (first | (with_reducible first | exact HB.out | apply below_alloc | apply pw_below_drewN | apply below_drew1) | exact HB.out)) hb); clear HB; have HB := n0_; clear n0_; (try clear hb); (try clear hb2); (try clear hk); (try clear hi))); try go_wp2_with (first | (go_at_call 10; (with_reducible refine (crossroadsref12_NameMay.calls a0 true _ A2.out).mono ?_); rintro e w4 ⟨rfl, hb⟩; have n0_ := Aside0.mk (below_step (by repeat (first | (with_reducible first | exact HB.out | apply below_alloc | apply pw_below_drewN | apply below_drew1) | exact HB.out)) hb); clear HB; have HB := n0_; clear n0_; (try clear hb); (try clear hb2); (try clear hk); (try clear hi))))
    go_loopg [4] k (fun kq v4 w' => ∃ (x4_1 : Int), v4 = .int .i64 x4_1 ∧ Aside0 (crossroadsref12_Split.l0 kq a0 x4_1 = some (r1, r2)) ∧ Aside0 (kq ≤ k) ∧ Aside0 (Below w.heap.size w w'))
    case atStart => exact ⟨(0), (by first | rfl | (simp; done) | (simp [*]; done)), H', ⟨Nat.le_refl _⟩, ⟨by repeat (first | (with_reducible first | exact HB.out | apply below_alloc | apply pw_below_drewN | apply below_drew1) | exact HB.out)⟩⟩
    case round =>
      clear H'
      try clear p2
      try clear c3
      obtain ⟨x4_1, rfl, HA, HK1, HB⟩ := hrel
      cases gk with
      | zero => exact absurd HA.out (by simp [crossroadsref12_Split.l0])
      | succ k1 =>
        have H := HA.out
        clear HA
        simp only [crossroadsref12_Split.l0] at H
        by_cases c5 : x4_1 < (a0.size : Int)
        · rw [if_pos c5] at H
          have c5b0 : decide (x4_1 < (a0.size : Int)) = true := decide_eq_true c5
          clear c5
          by_cases c6 : 0 ≤ x4_1
          · rw [if_pos c6] at H
            have c6b0 : decide (0 ≤ x4_1) = true := decide_eq_true c6
            clear c6
            by_cases c8 : (bt a0 x4_1) = 47
            · rw [if_pos c8] at H
              have c8b0 : ((bt a0 x4_1) == 47) = true := beq_iff_eq.mpr c8
              have c8b1 : ((bt a0 x4_1) != 47) = false := bne_eq_false_iff_eq.mpr c8
              clear c8
              have c9b0 := eq_true (of_decide_eq_true (by first | (with_reducible assumption) | assumption) : 0 ≤ x4_1)
              by_cases c10 : x4_1 ≤ (a0.size : Int)
              · rw [if_pos c10] at H
                have c10b0 := eq_true c10
                have c10b1 : decide (x4_1 ≤ (a0.size : Int)) = true := decide_eq_true c10
                clear c10
                obtain ⟨ji11, hji11⟩ : ∃ j_ : Int, (wrap64 (x4_1 + 1)) = j_ := ⟨_, rfl⟩
                replace H : (if 0 ≤ (ji11) then (if (ji11) ≤ (a0.size : Int) then (some (a0.extract 0 (x4_1 : Int).toNat, a0.extract ((ji11) : Int).toNat a0.size)) else (none)) else (none)) = some (r1, r2) := by first | (rw [hji11] at H; exact H) | (simp only [hji11] at H ⊢; exact H)
                have hji11w : (IntKind.i64.wrap (x4_1 + 1)) = ji11 := (i64_w _).trans hji11
                by_cases c12 : 0 ≤ (ji11)
                · rw [if_pos c12] at H
                  have c12b0 := eq_true c12
                  have c12b1 : decide (0 ≤ (ji11)) = true := decide_eq_true c12
                  clear c12
                  by_cases c13 : (ji11) ≤ (a0.size : Int)
                  · rw [if_pos c13] at H
                    have c13b0 := eq_true c13
                    have c13b1 : decide ((ji11) ≤ (a0.size : Int)) = true := decide_eq_true c13
                    clear c13
                    simp only [Option.some.injEq, Prod.mk.injEq] at H
                    obtain ⟨rfl, rfl⟩ := H
                    have p7 : 0 ≤ (x4_1 : Int) := of_decide_eq_true (by first | (with_reducible assumption) | assumption)
                    have q7 : x4_1 < (a0.size : Int) := of_decide_eq_true (by first | (with_reducible assumption) | assumption)
                    have hx7 := bt_at a0 x4_1
                    replace p7 := eq_true p7
                    replace q7 := eq_true q7
                    go_wp2
                    repeat (go_quiet (fail); try go_wp2)
                    go_ret2
                    exact ⟨by first | rfl | (simp [errW_none, errW_some] <;> rfl) | (simp only [← hji11]; first | rfl | (simp [errW_none, errW_some] <;> rfl)) | (simp [*, errW_none, errW_some] <;> rfl), by repeat (first | (with_reducible first | exact HB.out | apply below_alloc | apply pw_below_drewN | apply below_drew1) | exact HB.out)⟩
                  · rw [if_neg c13] at H
                    exact absurd H (by simp)
                · rw [if_neg c12] at H
                  exact absurd H (by simp)
              · rw [if_neg c10] at H
                exact absurd H (by simp)
            · rw [if_neg c8] at H
              have c8b0 : ((bt a0 x4_1) == 47) = false := beq_eq_false_iff_ne.mpr c8
              have c8b1 : ((bt a0 x4_1) != 47) = true := bne_iff_ne.mpr c8
              have H' := Aside0.mk H
              clear H
              have p7 : 0 ≤ (x4_1 : Int) := of_decide_eq_true (by first | (with_reducible assumption) | assumption)
              have q7 : x4_1 < (a0.size : Int) := of_decide_eq_true (by first | (with_reducible assumption) | assumption)
              have hx7 := bt_at a0 x4_1
              replace p7 := eq_true p7
              replace q7 := eq_true q7
              go_wp2
              repeat (go_quiet (fail); try go_wp2)
              go_roundg k1
              case measure => have := HK1.out; omega
              case rel => exact ⟨(wrap64 (x4_1 + 1)), (by first | rfl | (simp; done) | (simp [*]; done)), H', ⟨by have := HK1.out; omega⟩, ⟨by repeat (first | (with_reducible first | exact HB.out | apply below_alloc | apply pw_below_drewN | apply below_drew1) | exact HB.out)⟩⟩
          · rw [if_neg c6] at H
            exact absurd H (by simp)
        · rw [if_neg c5] at H
          have c5b0 : decide (x4_1 < (a0.size : Int)) = false := decide_eq_false c5
          clear c5
          simp only [Option.some.injEq, Prod.mk.injEq] at H
          obtain ⟨rfl, rfl⟩ := H
          go_wp2
          repeat (go_quiet (fail); try go_wp2)
          go_ret2
          exact ⟨by first | rfl | (simp [errW_none, errW_some] <;> rfl) | (simp [*, errW_none, errW_some] <;> rfl), by repeat (first | (with_reducible first | exact HB.out | apply below_alloc | apply pw_below_drewN | apply below_drew1) | exact HB.out)⟩
  · replace c3 := Bool.eq_false_iff.mpr c3
    subst c3
    have H1 : (some ((⟨#[]⟩ : ByteArray), (⟨#[]⟩ : ByteArray))) = some (r1, r2) := by rw [if_neg (show ¬ (false = true) by decide)] at H; exact H
    clear H
    have H := H1
    clear H1
    simp only [Option.some.injEq, Prod.mk.injEq] at H
    obtain ⟨rfl, rfl⟩ := H
    go_enter Try.func9, Try.ntmps9
    go_wp2_with (first | (go_at_call 10; (with_reducible refine (crossroadsref12_NameMay.calls a0 false _ A2.out).mono ?_); rintro e w14 ⟨rfl, hb⟩; have n0_ := Aside0.mk (below_step (by repeat (first | (with_reducible first | exact HB.out | apply below_alloc | apply pw_below_drewN | apply below_drew1) | exact HB.out)) hb); clear HB; have HB := n0_; clear n0_; (try clear hb); (try clear hb2); (try clear hk); (try clear hi)))
    repeat (go_quiet (first | (go_at_call 10; (with_reducible refine (crossroadsref12_NameMay.calls a0 false _ A2.out).mono ?_); rintro e w14 ⟨rfl, hb⟩; have n0_ := Aside0.mk (below_step (by repeat (first | (with_reducible first | exact HB.out | apply below_alloc | apply pw_below_drewN | apply below_drew1) | exact HB.out)) hb); clear HB; have HB := n0_; clear n0_; (try clear hb); (try clear hb2); (try clear hk); (try clear hi))); try go_wp2_with (first | (go_at_call 10; (with_reducible refine (crossroadsref12_NameMay.calls a0 false _ A2.out).mono ?_); rintro e w14 ⟨rfl, hb⟩; have n0_ := Aside0.mk (below_step (by repeat (first | (with_reducible first | exact HB.out | apply below_alloc | apply pw_below_drewN | apply below_drew1) | exact HB.out)) hb); clear HB; have HB := n0_; clear n0_; (try clear hb); (try clear hb2); (try clear hk); (try clear hi))))
    go_ret2
    exact ⟨by first | rfl | (simp [errW_none, errW_some] <;> rfl) | (simp [*, errW_none, errW_some] <;> rfl), by repeat (first | (with_reducible first | exact HB.out | apply below_alloc | apply pw_below_drewN | apply below_drew1) | exact HB.out)⟩

/-! ### crossroadslaw12_NamesSplit: function 3 -/
mutual
def crossroadslaw12_NamesSplit.j0 : Nat → ByteArray → ByteArray → Bool → Option (Bool)
  | 0, _, _, _ => none
  | k + 1, x0, x1, x21 => if x21 = true then (some true) else ((names_Split.f k x0).bind fun bt133 => ((crossroadsref12_Split.f k x0).bind fun bt135 => ((crossroadsref12_Split.f k x1).bind fun bt137 => ((crossroadsref12_NameMay.f x0).bind fun t139 => (if t139 = true then (if bt135.1.toList = ([] : List UInt8) then (crossroadslaw12_NamesSplit.j1 k x0 x1 bt133.1 bt133.2 bt135.1 bt135.2 bt137.1 bt137.2 1) else (crossroadslaw12_NamesSplit.j1 k x0 x1 bt133.1 bt133.2 bt135.1 bt135.2 bt137.1 bt137.2 2)) else (crossroadslaw12_NamesSplit.j1 k x0 x1 bt133.1 bt133.2 bt135.1 bt135.2 bt137.1 bt137.2 0))))))
def crossroadslaw12_NamesSplit.j1 : Nat → ByteArray → ByteArray → ByteArray → ByteArray → ByteArray → ByteArray → ByteArray → ByteArray → Int → Option (Bool)
  | 0, _, _, _, _, _, _, _, _, _ => none
  | k + 1, x0, x1, x5, x6, x7, x8, x9, x10, x11 => (names_May.f k x0).bind fun t140 => ((crossroadsref12_NameMay.f x0).bind fun t141 => (if (t140 == t141) = true then (if x5.toList = x7.toList then (if x6.toList = x8.toList then ((names_Deep.f k x0).bind fun t142 => (if t142 = x11 then ((names_Less.f k x0 x1).bind fun t143 => (if (Op.bytesLess x7.toList x9.toList) = true then (some (t143 == true)) else (if x7.toList = x9.toList then (some (t143 == (Op.bytesLess x8.toList x10.toList))) else (some (t143 == false))))) else (none))) else (none)) else (none)) else (none)))
end
def crossroadslaw12_NamesSplit.f (k : Nat) (a0 : ByteArray) (a1 : ByteArray) : Option (Bool) := (crossroadslaw12_awake.f k).bind fun t132 => (if t132 = true then (if (a0.size : Int) > 300 then (crossroadslaw12_NamesSplit.j0 k a0 a1 true) else (crossroadslaw12_NamesSplit.j0 k a0 a1 (decide ((a1.size : Int) > 300)))) else (none))
theorem crossroadslaw12_NamesSplit.mono_l : ∀ k, (∀ y0 y1 y2, LeO (crossroadslaw12_NamesSplit.j0 k y0 y1 y2) (crossroadslaw12_NamesSplit.j0 (k + 1) y0 y1 y2)) ∧ (∀ y0 y1 y2 y3 y4 y5 y6 y7 y8, LeO (crossroadslaw12_NamesSplit.j1 k y0 y1 y2 y3 y4 y5 y6 y7 y8) (crossroadslaw12_NamesSplit.j1 (k + 1) y0 y1 y2 y3 y4 y5 y6 y7 y8))
  | 0 => ⟨fun _ _ _ r h => by simp [crossroadslaw12_NamesSplit.j0] at h, fun _ _ _ _ _ _ _ _ _ r h => by simp [crossroadslaw12_NamesSplit.j1] at h⟩
  | k + 1 => by
    obtain ⟨ih0, ih1⟩ := crossroadslaw12_NamesSplit.mono_l k
    refine ⟨?_, ?_⟩
    · intro y0 y1 y2
      unfold crossroadslaw12_NamesSplit.j0
      repeat' first
      | (with_reducible exact ih0 _ _ _)
      | (with_reducible exact ih1 _ _ _ _ _ _ _ _ _)
      | (with_reducible exact crossroadslaw12_awake.mono _)
      | (with_reducible exact crossroadsref12_Split.mono _ _)
      | (with_reducible exact names_Deep.mono _ _)
      | (with_reducible exact names_Less.mono _ _ _)
      | (with_reducible exact names_May.mono _ _)
      | (with_reducible exact names_Split.mono _ _)
      | (with_reducible exact LeO.refl _)
      | (with_reducible exact LeO.none _)
      | (with_reducible refine LeO.ite ?_ ?_)
      | (with_reducible refine LeO.bind ?_ (fun _ => ?_))
      | exact ih0 _ _ _
      | exact ih1 _ _ _ _ _ _ _ _ _
      | exact crossroadslaw12_awake.mono _
      | exact crossroadsref12_Split.mono _ _
      | exact names_Deep.mono _ _
      | exact names_Less.mono _ _ _
      | exact names_May.mono _ _
      | exact names_Split.mono _ _
      | exact LeO.none _
      | refine LeO.ite ?_ ?_
      | refine LeO.bind ?_ (fun _ => ?_)
    · intro y0 y1 y2 y3 y4 y5 y6 y7 y8
      unfold crossroadslaw12_NamesSplit.j1
      repeat' first
      | (with_reducible exact ih0 _ _ _)
      | (with_reducible exact ih1 _ _ _ _ _ _ _ _ _)
      | (with_reducible exact crossroadslaw12_awake.mono _)
      | (with_reducible exact crossroadsref12_Split.mono _ _)
      | (with_reducible exact names_Deep.mono _ _)
      | (with_reducible exact names_Less.mono _ _ _)
      | (with_reducible exact names_May.mono _ _)
      | (with_reducible exact names_Split.mono _ _)
      | (with_reducible exact LeO.refl _)
      | (with_reducible exact LeO.none _)
      | (with_reducible refine LeO.ite ?_ ?_)
      | (with_reducible refine LeO.bind ?_ (fun _ => ?_))
      | exact ih0 _ _ _
      | exact ih1 _ _ _ _ _ _ _ _ _
      | exact crossroadslaw12_awake.mono _
      | exact crossroadsref12_Split.mono _ _
      | exact names_Deep.mono _ _
      | exact names_Less.mono _ _ _
      | exact names_May.mono _ _
      | exact names_Split.mono _ _
      | exact LeO.none _
      | refine LeO.ite ?_ ?_
      | refine LeO.bind ?_ (fun _ => ?_)
theorem crossroadslaw12_NamesSplit.mono : ∀ a0 a1 k, LeO (crossroadslaw12_NamesSplit.f k a0 a1) (crossroadslaw12_NamesSplit.f (k + 1) a0 a1) := by
  intro a0 a1 k
  obtain ⟨ih0, ih1⟩ := crossroadslaw12_NamesSplit.mono_l k
  unfold crossroadslaw12_NamesSplit.f
  repeat' first
      | (with_reducible exact ih0 _ _ _)
      | (with_reducible exact ih1 _ _ _ _ _ _ _ _ _)
      | (with_reducible exact crossroadslaw12_awake.mono _)
      | (with_reducible exact crossroadsref12_Split.mono _ _)
      | (with_reducible exact names_Deep.mono _ _)
      | (with_reducible exact names_Less.mono _ _ _)
      | (with_reducible exact names_May.mono _ _)
      | (with_reducible exact names_Split.mono _ _)
      | (with_reducible exact LeO.refl _)
      | (with_reducible exact LeO.none _)
      | (with_reducible refine LeO.ite ?_ ?_)
      | (with_reducible refine LeO.bind ?_ (fun _ => ?_))
      | exact ih0 _ _ _
      | exact ih1 _ _ _ _ _ _ _ _ _
      | exact crossroadslaw12_awake.mono _
      | exact crossroadsref12_Split.mono _ _
      | exact names_Deep.mono _ _
      | exact names_Less.mono _ _ _
      | exact names_May.mono _ _
      | exact names_Split.mono _ _
      | exact LeO.none _
      | refine LeO.ite ?_ ?_
      | refine LeO.bind ?_ (fun _ => ?_)
set_option maxHeartbeats 8000000 in
set_option maxRecDepth 100000 in
theorem crossroadslaw12_NamesSplit.calls (k : Nat) (a0 : ByteArray) (a1 : ByteArray) (r : Bool) (w : World) (h : crossroadslaw12_NamesSplit.f k a0 a1 = some r) :
    Calls Try.prog 3 #[.string a0, .string a1] w fun e w' => e = .returned (.bool r) ∧ Below w.heap.size w w' := by
  have HB := Aside0.mk (Below.refl w.heap.size w)
  have H : ((crossroadslaw12_awake.f k).bind fun t132 => (if t132 = true then (if (a0.size : Int) > 300 then (crossroadslaw12_NamesSplit.j0 k a0 a1 true) else (crossroadslaw12_NamesSplit.j0 k a0 a1 (decide ((a1.size : Int) > 300)))) else (none))) = some r := h
  clear h
  replace H := Option.bind_eq_some_iff.mp H
  obtain ⟨t132, A30, H⟩ := H
  replace H : (if t132 = true then (if (a0.size : Int) > 300 then (crossroadslaw12_NamesSplit.j0 k a0 a1 true) else (crossroadslaw12_NamesSplit.j0 k a0 a1 (decide ((a1.size : Int) > 300)))) else (none)) = some r := H
  have A3 := Aside0.mk A30
  clear A30
  by_cases c4 : t132 = true
  · subst c4
    have H1 : (if (a0.size : Int) > 300 then (crossroadslaw12_NamesSplit.j0 k a0 a1 true) else (crossroadslaw12_NamesSplit.j0 k a0 a1 (decide ((a1.size : Int) > 300)))) = some r := by rw [if_pos rfl] at H; exact H
    clear H
    have H := H1
    clear H1
    have HC5 := Aside0.mk H
    clear H
    go_enter Try.func3, Try.ntmps3
    go_upto_region 3 with (first | ((with_reducible refine gate_callee (f := 7) rfl ?_); refine goesL_ (some 12) rfl rfl Try.func7 (by kernel_rfl) rfl #[] rfl (by (try simp only [List.map_toArray, List.map_cons, List.map_nil]); first | done | rfl | (simp only [List.length_drop, List.length_take]; rfl)) ?_; (with_reducible refine (crossroadslaw12_awake.calls k  true _ A3.out).mono ?_); rintro e w6 ⟨rfl, hb⟩; refine ⟨_, rfl, ?_⟩; have n0_ := Aside0.mk (below_step (by repeat (first | (with_reducible first | exact HB.out | apply below_alloc | apply pw_below_drewN | apply below_drew1) | exact HB.out)) hb); clear HB; have HB := n0_; clear n0_; (try clear hb); (try clear hb2); (try clear hk); (try clear hi)))
    (try simp only [Act.put, List.setIfInBounds_toArray, List.set_cons_zero, List.set_cons_succ])
    go_cut [21] (fun v21 wc => ∃ (kq : Nat) (x21_4 : Bool), v21 = .bool x21_4 ∧ Aside0 (crossroadslaw12_NamesSplit.j0 kq a0 a1 x21_4 = some r) ∧ Aside0 (kq ≤ k) ∧ Aside0 (Below w.heap.size w wc))
    case first =>
      have H := HC5.out
      clear HC5
      by_cases c7 : (a0.size : Int) > 300
      · rw [if_pos c7] at H
        have c7b0 : decide (300 < (a0.size : Int)) = true := decide_eq_true c7
        have c7b1 : decide (300 < a0.size) = true := decide_eq_true (by omega)
        clear c7
        (first | rw [c7b0] | (simp only [i64_w, i32_w]; rw [c7b0]) | (rw [c7b2]; (try simp only [Bool.not_true, Bool.not_false])) | skip)
        have H' := Aside0.mk H
        clear H
        go_wp2
        go_meet
        case rel => exact ⟨_, (true), (by first | rfl | (simp; done) | (simp [*]; done)), H', ⟨by first | omega | exact Nat.le_refl _⟩, ⟨by repeat (first | (with_reducible first | exact HB.out | apply below_alloc | apply pw_below_drewN | apply below_drew1) | exact HB.out)⟩⟩
      · rw [if_neg c7] at H
        have c7b0 : decide (300 < (a0.size : Int)) = false := decide_eq_false c7
        have c7b1 : decide (300 < a0.size) = false := decide_eq_false (by omega)
        clear c7
        (first | rw [c7b0] | (simp only [i64_w, i32_w]; rw [c7b0]) | (rw [c7b2]; (try simp only [Bool.not_true, Bool.not_false])) | skip)
        have H' := Aside0.mk H
        clear H
        go_wp2
        go_meet
        case rel => exact ⟨_, (decide ((a1.size : Int) > 300)), (by first | rfl | (simp; done) | (simp [*]; done)), H', ⟨by first | omega | exact Nat.le_refl _⟩, ⟨by repeat (first | (with_reducible first | exact HB.out | apply below_alloc | apply pw_below_drewN | apply below_drew1) | exact HB.out)⟩⟩
    case rest =>
      clear HC5
      try clear p2
      try clear c3
      try clear c4
      try clear c7
      try clear c7b0
      try clear c7b1
      try clear c7b2
      obtain ⟨kq, x21_4, rfl, HA, HJ4, HB⟩ := hcut
      cases kq with
      | zero => exact absurd HA.out (by simp [crossroadslaw12_NamesSplit.j0])
      | succ kj4 =>
        have H := HA.out
        clear HA
        simp only [crossroadslaw12_NamesSplit.j0] at H
        by_cases c8 : x21_4 = true
        · subst c8
          have H1 : (some true) = some r := by rw [if_pos rfl] at H; exact H
          clear H
          have H := H1
          clear H1
          obtain rfl := Option.some.inj H
          go_wp2
          go_ret
          exact ⟨by first | rfl | (simp [errW_none, errW_some] <;> rfl) | (simp [*, errW_none, errW_some] <;> rfl), by repeat (first | (with_reducible first | exact HB.out | apply below_alloc | apply pw_below_drewN | apply below_drew1) | exact HB.out)⟩
        · replace c8 := Bool.eq_false_iff.mpr c8
          subst c8
          have H1 : ((names_Split.f kj4 a0).bind fun bt133 => ((crossroadsref12_Split.f kj4 a0).bind fun bt135 => ((crossroadsref12_Split.f kj4 a1).bind fun bt137 => ((crossroadsref12_NameMay.f a0).bind fun t139 => (if t139 = true then (if bt135.1.toList = ([] : List UInt8) then (crossroadslaw12_NamesSplit.j1 kj4 a0 a1 bt133.1 bt133.2 bt135.1 bt135.2 bt137.1 bt137.2 1) else (crossroadslaw12_NamesSplit.j1 kj4 a0 a1 bt133.1 bt133.2 bt135.1 bt135.2 bt137.1 bt137.2 2)) else (crossroadslaw12_NamesSplit.j1 kj4 a0 a1 bt133.1 bt133.2 bt135.1 bt135.2 bt137.1 bt137.2 0)))))) = some r := by rw [if_neg (show ¬ (false = true) by decide)] at H; exact H
          clear H
          have H := H1
          clear H1
          replace H := Option.bind_eq_some_iff.mp H
          obtain ⟨⟨t133, t134⟩, A90, H⟩ := H
          replace H : ((crossroadsref12_Split.f kj4 a0).bind fun bt135 => ((crossroadsref12_Split.f kj4 a1).bind fun bt137 => ((crossroadsref12_NameMay.f a0).bind fun t139 => (if t139 = true then (if bt135.1.toList = ([] : List UInt8) then (crossroadslaw12_NamesSplit.j1 kj4 a0 a1 t133 t134 bt135.1 bt135.2 bt137.1 bt137.2 1) else (crossroadslaw12_NamesSplit.j1 kj4 a0 a1 t133 t134 bt135.1 bt135.2 bt137.1 bt137.2 2)) else (crossroadslaw12_NamesSplit.j1 kj4 a0 a1 t133 t134 bt135.1 bt135.2 bt137.1 bt137.2 0))))) = some r := H
          have A9 := Aside0.mk A90
          clear A90
          replace H := Option.bind_eq_some_iff.mp H
          obtain ⟨⟨t135, t136⟩, A100, H⟩ := H
          replace H : ((crossroadsref12_Split.f kj4 a1).bind fun bt137 => ((crossroadsref12_NameMay.f a0).bind fun t139 => (if t139 = true then (if t135.toList = ([] : List UInt8) then (crossroadslaw12_NamesSplit.j1 kj4 a0 a1 t133 t134 t135 t136 bt137.1 bt137.2 1) else (crossroadslaw12_NamesSplit.j1 kj4 a0 a1 t133 t134 t135 t136 bt137.1 bt137.2 2)) else (crossroadslaw12_NamesSplit.j1 kj4 a0 a1 t133 t134 t135 t136 bt137.1 bt137.2 0)))) = some r := H
          have A10 := Aside0.mk A100
          clear A100
          replace H := Option.bind_eq_some_iff.mp H
          obtain ⟨⟨t137, t138⟩, A110, H⟩ := H
          replace H : ((crossroadsref12_NameMay.f a0).bind fun t139 => (if t139 = true then (if t135.toList = ([] : List UInt8) then (crossroadslaw12_NamesSplit.j1 kj4 a0 a1 t133 t134 t135 t136 t137 t138 1) else (crossroadslaw12_NamesSplit.j1 kj4 a0 a1 t133 t134 t135 t136 t137 t138 2)) else (crossroadslaw12_NamesSplit.j1 kj4 a0 a1 t133 t134 t135 t136 t137 t138 0))) = some r := H
          have A11 := Aside0.mk A110
          clear A110
          replace H := Option.bind_eq_some_iff.mp H
          obtain ⟨t139, A120, H⟩ := H
          replace H : (if t139 = true then (if t135.toList = ([] : List UInt8) then (crossroadslaw12_NamesSplit.j1 kj4 a0 a1 t133 t134 t135 t136 t137 t138 1) else (crossroadslaw12_NamesSplit.j1 kj4 a0 a1 t133 t134 t135 t136 t137 t138 2)) else (crossroadslaw12_NamesSplit.j1 kj4 a0 a1 t133 t134 t135 t136 t137 t138 0)) = some r := H
          have A12 := Aside0.mk A120
          clear A120
          have HC13 := Aside0.mk H
          clear H
          go_upto_if 38 with (first | ((with_reducible refine gate_callee (f := 8) rfl ?_); refine goesL_ (some 24) rfl rfl Try.func8 (by kernel_rfl) rfl #[.string a0] rfl (by (try simp only [List.map_toArray, List.map_cons, List.map_nil]); first | done | rfl | (simp only [List.length_drop, List.length_take]; rfl)) ?_; (with_reducible refine (names_Split.calls kj4 a0 t133 t134 _ A9.out).mono ?_); rintro e w' ⟨rfl, ⟨nd, rfl⟩⟩; refine ⟨_, rfl, ?_⟩) | ((with_reducible refine gate_callee (f := 9) rfl ?_); refine goesL_ (some 29) rfl rfl Try.func9 (by kernel_rfl) rfl #[.string a0] rfl (by (try simp only [List.map_toArray, List.map_cons, List.map_nil]); first | done | rfl | (simp only [List.length_drop, List.length_take]; rfl)) ?_; (with_reducible refine (crossroadsref12_Split.calls kj4 a0 t135 t136 _ A10.out).mono ?_); rintro e w14 ⟨rfl, hb⟩; refine ⟨_, rfl, ?_⟩; have n0_ := Aside0.mk (below_step (by repeat (first | (with_reducible first | exact HB.out | apply below_alloc | apply pw_below_drewN | apply below_drew1) | exact HB.out)) hb); clear HB; have HB := n0_; clear n0_; (try clear hb); (try clear hb2); (try clear hk); (try clear hi)) | ((with_reducible refine gate_callee (f := 9) rfl ?_); refine goesL_ (some 34) rfl rfl Try.func9 (by kernel_rfl) rfl #[.string a1] rfl (by (try simp only [List.map_toArray, List.map_cons, List.map_nil]); first | done | rfl | (simp only [List.length_drop, List.length_take]; rfl)) ?_; (with_reducible refine (crossroadsref12_Split.calls kj4 a1 t137 t138 _ A11.out).mono ?_); rintro e w15 ⟨rfl, hb⟩; refine ⟨_, rfl, ?_⟩; have n0_ := Aside0.mk (below_step (by repeat (first | (with_reducible first | exact HB.out | apply below_alloc | apply pw_below_drewN | apply below_drew1) | exact HB.out)) hb); clear HB; have HB := n0_; clear n0_; (try clear hb); (try clear hb2); (try clear hk); (try clear hi)) | ((with_reducible refine gate_callee (f := 10) rfl ?_); refine goesL_ (some 38) rfl rfl Try.func10 (by kernel_rfl) rfl #[.string a0] rfl (by (try simp only [List.map_toArray, List.map_cons, List.map_nil]); first | done | rfl | (simp only [List.length_drop, List.length_take]; rfl)) ?_; (with_reducible refine (crossroadsref12_NameMay.calls a0 t139 _ A12.out).mono ?_); rintro e w16 ⟨rfl, hb⟩; refine ⟨_, rfl, ?_⟩; have n0_ := Aside0.mk (below_step (by repeat (first | (with_reducible first | exact HB.out | apply below_alloc | apply pw_below_drewN | apply below_drew1) | exact HB.out)) hb); clear HB; have HB := n0_; clear n0_; (try clear hb); (try clear hb2); (try clear hk); (try clear hi)))
          (try simp only [Act.put, List.setIfInBounds_toArray, List.set_cons_zero, List.set_cons_succ])
          go_cut [11] (fun v11 wc => ∃ (kq : Nat) (x11_12 : Int), v11 = .int .i64 x11_12 ∧ Aside0 (crossroadslaw12_NamesSplit.j1 kq a0 a1 t133 t134 t135 t136 t137 t138 x11_12 = some r) ∧ Aside0 (kq ≤ kj4) ∧ Aside0 (Below w.heap.size w wc))
          case first =>
            have H := HC13.out
            clear HC13
            by_cases c17 : t139 = true
            · subst c17
              have H1 : (if t135.toList = ([] : List UInt8) then (crossroadslaw12_NamesSplit.j1 kj4 a0 a1 t133 t134 t135 t136 t137 t138 1) else (crossroadslaw12_NamesSplit.j1 kj4 a0 a1 t133 t134 t135 t136 t137 t138 2)) = some r := by rw [if_pos rfl] at H; exact H
              clear H
              have H := H1
              clear H1
              by_cases c18 : t135.toList = ([] : List UInt8)
              · rw [if_pos c18] at H
                have c18b0 : (t135.toList == ([] : List UInt8)) = true := beq_iff_eq.mpr c18
                have c18b1 : (t135.toList != ([] : List UInt8)) = false := bne_eq_false_iff_eq.mpr c18
                have c18b2 : t135.toList.isEmpty = true := List.isEmpty_iff.mpr c18
                clear c18
                (first | rw [c18b0] | (simp only [i64_w, i32_w]; rw [c18b0]) | (rw [c18b2]; (try simp only [Bool.not_true, Bool.not_false])) | skip)
                have H' := Aside0.mk H
                clear H
                go_wp2
                go_meet
                case rel => exact ⟨_, (1), (by first | rfl | (simp; done) | (simp [*]; done)), H', ⟨by have := HJ4.out; first | omega | exact Nat.le_refl _⟩, ⟨by repeat (first | (with_reducible first | exact HB.out | apply below_alloc | apply pw_below_drewN | apply below_drew1) | exact HB.out)⟩⟩
              · rw [if_neg c18] at H
                have c18b0 : (t135.toList == ([] : List UInt8)) = false := beq_eq_false_iff_ne.mpr c18
                have c18b1 : (t135.toList != ([] : List UInt8)) = true := bne_iff_ne.mpr c18
                have c18b2 : t135.toList.isEmpty = false := Bool.eq_false_iff.mpr (fun h_ => c18 (List.isEmpty_iff.mp h_))
                (first | rw [c18b0] | (simp only [i64_w, i32_w]; rw [c18b0]) | (rw [c18b2]; (try simp only [Bool.not_true, Bool.not_false])) | skip)
                have H' := Aside0.mk H
                clear H
                go_wp2
                go_meet
                case rel => exact ⟨_, (2), (by first | rfl | (simp; done) | (simp [*]; done)), H', ⟨by have := HJ4.out; first | omega | exact Nat.le_refl _⟩, ⟨by repeat (first | (with_reducible first | exact HB.out | apply below_alloc | apply pw_below_drewN | apply below_drew1) | exact HB.out)⟩⟩
            · replace c17 := Bool.eq_false_iff.mpr c17
              subst c17
              have H1 : (crossroadslaw12_NamesSplit.j1 kj4 a0 a1 t133 t134 t135 t136 t137 t138 0) = some r := by rw [if_neg (show ¬ (false = true) by decide)] at H; exact H
              clear H
              have H := H1
              clear H1
              have H' := Aside0.mk H
              clear H
              go_wp2
              go_meet
              case rel => exact ⟨_, (0), (by first | rfl | (simp; done) | (simp [*]; done)), H', ⟨by have := HJ4.out; first | omega | exact Nat.le_refl _⟩, ⟨by repeat (first | (with_reducible first | exact HB.out | apply below_alloc | apply pw_below_drewN | apply below_drew1) | exact HB.out)⟩⟩
          case rest =>
            clear HC13
            try clear c1
            try clear p2
            try clear c3
            try clear c4
            try clear c7
            try clear c7b0
            try clear c7b1
            try clear c7b2
            try clear c8
            try clear c9
            try clear c10
            try clear c17
            try clear c18
            try clear c18b0
            try clear c18b1
            try clear c18b2
            try clear p2
            obtain ⟨kq, x11_12, rfl, HA, HJ12, HB⟩ := hcut
            cases kq with
            | zero => exact absurd HA.out (by simp [crossroadslaw12_NamesSplit.j1])
            | succ kj12 =>
              have H := HA.out
              clear HA
              simp only [crossroadslaw12_NamesSplit.j1] at H
              replace H := Option.bind_eq_some_iff.mp H
              obtain ⟨t140, A190, H⟩ := H
              replace H : ((crossroadsref12_NameMay.f a0).bind fun t141 => (if (t140 == t141) = true then (if t133.toList = t135.toList then (if t134.toList = t136.toList then ((names_Deep.f kj12 a0).bind fun t142 => (if t142 = x11_12 then ((names_Less.f kj12 a0 a1).bind fun t143 => (if (Op.bytesLess t135.toList t137.toList) = true then (some (t143 == true)) else (if t135.toList = t137.toList then (some (t143 == (Op.bytesLess t136.toList t138.toList))) else (some (t143 == false))))) else (none))) else (none)) else (none)) else (none))) = some r := H
              have A19 := Aside0.mk A190
              clear A190
              replace H := Option.bind_eq_some_iff.mp H
              obtain ⟨t141, A200, H⟩ := H
              replace H : (if (t140 == t141) = true then (if t133.toList = t135.toList then (if t134.toList = t136.toList then ((names_Deep.f kj12 a0).bind fun t142 => (if t142 = x11_12 then ((names_Less.f kj12 a0 a1).bind fun t143 => (if (Op.bytesLess t135.toList t137.toList) = true then (some (t143 == true)) else (if t135.toList = t137.toList then (some (t143 == (Op.bytesLess t136.toList t138.toList))) else (some (t143 == false))))) else (none))) else (none)) else (none)) else (none)) = some r := H
              have A20 := Aside0.mk A200
              clear A200
              by_cases c21 : (t140 == t141) = true
              · rw [if_pos c21] at H
                have c21b0 : (t140 == t141) = true := c21
                (try (have c21b1 : decide (t140 = t141) = true := by simpa using c21))
                (try (have c21b2 : (t140 == t141) = true := by simpa using c21))
                clear c21
                by_cases c22 : t133.toList = t135.toList
                · rw [if_pos c22] at H
                  have c22b0 : (t133.toList == t135.toList) = true := beq_iff_eq.mpr c22
                  have c22b1 : (t133.toList != t135.toList) = false := bne_eq_false_iff_eq.mpr c22
                  clear c22
                  by_cases c23 : t134.toList = t136.toList
                  · rw [if_pos c23] at H
                    have c23b0 : (t134.toList == t136.toList) = true := beq_iff_eq.mpr c23
                    have c23b1 : (t134.toList != t136.toList) = false := bne_eq_false_iff_eq.mpr c23
                    clear c23
                    replace H := Option.bind_eq_some_iff.mp H
                    obtain ⟨t142, A240, H⟩ := H
                    replace H : (if t142 = x11_12 then ((names_Less.f kj12 a0 a1).bind fun t143 => (if (Op.bytesLess t135.toList t137.toList) = true then (some (t143 == true)) else (if t135.toList = t137.toList then (some (t143 == (Op.bytesLess t136.toList t138.toList))) else (some (t143 == false))))) else (none)) = some r := H
                    have A24 := Aside0.mk A240
                    clear A240
                    by_cases c25 : t142 = x11_12
                    · rw [if_pos c25] at H
                      have c25b0 : (t142 == x11_12) = true := beq_iff_eq.mpr c25
                      have c25b1 : (t142 != x11_12) = false := bne_eq_false_iff_eq.mpr c25
                      clear c25
                      replace H := Option.bind_eq_some_iff.mp H
                      obtain ⟨t143, A260, H⟩ := H
                      replace H : (if (Op.bytesLess t135.toList t137.toList) = true then (some (t143 == true)) else (if t135.toList = t137.toList then (some (t143 == (Op.bytesLess t136.toList t138.toList))) else (some (t143 == false)))) = some r := H
                      have A26 := Aside0.mk A260
                      clear A260
                      by_cases c27 : (Op.bytesLess t135.toList t137.toList) = true
                      · rw [if_pos c27] at H
                        have c27b0 : (Op.bytesLess t135.toList t137.toList) = true := c27
                        clear c27
                        obtain rfl := Option.some.inj H
                        go_wp2_with (first | ((with_reducible refine gate_callee (f := 11) rfl ?_); refine goesL_ (some 42) rfl rfl Try.func11 (by kernel_rfl) rfl #[.string a0] rfl (by (try simp only [List.map_toArray, List.map_cons, List.map_nil]); first | done | rfl | (simp only [List.length_drop, List.length_take]; rfl)) ?_; (with_reducible refine (names_May.calls kj12 a0 t140 _ A19.out).mono ?_); rintro e w' ⟨rfl, ⟨nd, rfl⟩⟩; refine ⟨_, rfl, ?_⟩) | ((with_reducible refine gate_callee (f := 10) rfl ?_); refine goesL_ (some 44) rfl rfl Try.func10 (by kernel_rfl) rfl #[.string a0] rfl (by (try simp only [List.map_toArray, List.map_cons, List.map_nil]); first | done | rfl | (simp only [List.length_drop, List.length_take]; rfl)) ?_; (with_reducible refine (crossroadsref12_NameMay.calls a0 t141 _ A20.out).mono ?_); rintro e w28 ⟨rfl, hb⟩; refine ⟨_, rfl, ?_⟩; have n0_ := Aside0.mk (below_step (by repeat (first | (with_reducible first | exact HB.out | apply below_alloc | apply pw_below_drewN | apply below_drew1) | exact HB.out)) hb); clear HB; have HB := n0_; clear n0_; (try clear hb); (try clear hb2); (try clear hk); (try clear hi)) | (go_at_call 12; (with_reducible refine (names_Deep.calls kj12 a0 t142 _ A24.out).mono ?_); rintro e w' ⟨rfl, ⟨nd, rfl⟩⟩) | (go_at_call 13; (with_reducible refine (names_Less.calls kj12 a0 a1 t143 _ A26.out).mono ?_); rintro e w29 ⟨rfl, hb⟩; have n0_ := Aside0.mk (below_step (by repeat (first | (with_reducible first | exact HB.out | apply below_alloc | apply pw_below_drewN | apply below_drew1) | exact HB.out)) hb); clear HB; have HB := n0_; clear n0_; (try clear hb); (try clear hb2); (try clear hk); (try clear hi)))
                        go_ret
                        exact ⟨by first | rfl | (simp [errW_none, errW_some] <;> rfl) | (simp [*, errW_none, errW_some] <;> rfl), by repeat (first | (with_reducible first | exact HB.out | apply below_alloc | apply pw_below_drewN | apply below_drew1) | exact HB.out)⟩
                      · rw [if_neg c27] at H
                        have c27b0 : (Op.bytesLess t135.toList t137.toList) = false := by simpa using c27
                        clear c27
                        by_cases c30 : t135.toList = t137.toList
                        · rw [if_pos c30] at H
                          have c30b0 : (t135.toList == t137.toList) = true := beq_iff_eq.mpr c30
                          have c30b1 : (t135.toList != t137.toList) = false := bne_eq_false_iff_eq.mpr c30
                          clear c30
                          obtain rfl := Option.some.inj H
                          go_wp2_with (first | ((with_reducible refine gate_callee (f := 11) rfl ?_); refine goesL_ (some 42) rfl rfl Try.func11 (by kernel_rfl) rfl #[.string a0] rfl (by (try simp only [List.map_toArray, List.map_cons, List.map_nil]); first | done | rfl | (simp only [List.length_drop, List.length_take]; rfl)) ?_; (with_reducible refine (names_May.calls kj12 a0 t140 _ A19.out).mono ?_); rintro e w' ⟨rfl, ⟨nd, rfl⟩⟩; refine ⟨_, rfl, ?_⟩) | ((with_reducible refine gate_callee (f := 10) rfl ?_); refine goesL_ (some 44) rfl rfl Try.func10 (by kernel_rfl) rfl #[.string a0] rfl (by (try simp only [List.map_toArray, List.map_cons, List.map_nil]); first | done | rfl | (simp only [List.length_drop, List.length_take]; rfl)) ?_; (with_reducible refine (crossroadsref12_NameMay.calls a0 t141 _ A20.out).mono ?_); rintro e w31 ⟨rfl, hb⟩; refine ⟨_, rfl, ?_⟩; have n0_ := Aside0.mk (below_step (by repeat (first | (with_reducible first | exact HB.out | apply below_alloc | apply pw_below_drewN | apply below_drew1) | exact HB.out)) hb); clear HB; have HB := n0_; clear n0_; (try clear hb); (try clear hb2); (try clear hk); (try clear hi)) | (go_at_call 12; (with_reducible refine (names_Deep.calls kj12 a0 t142 _ A24.out).mono ?_); rintro e w' ⟨rfl, ⟨nd, rfl⟩⟩) | (go_at_call 13; (with_reducible refine (names_Less.calls kj12 a0 a1 t143 _ A26.out).mono ?_); rintro e w32 ⟨rfl, hb⟩; have n0_ := Aside0.mk (below_step (by repeat (first | (with_reducible first | exact HB.out | apply below_alloc | apply pw_below_drewN | apply below_drew1) | exact HB.out)) hb); clear HB; have HB := n0_; clear n0_; (try clear hb); (try clear hb2); (try clear hk); (try clear hi)))
                          go_ret
                          exact ⟨by first | rfl | (simp [errW_none, errW_some] <;> rfl) | (simp [*, errW_none, errW_some] <;> rfl), by repeat (first | (with_reducible first | exact HB.out | apply below_alloc | apply pw_below_drewN | apply below_drew1) | exact HB.out)⟩
                        · rw [if_neg c30] at H
                          have c30b0 : (t135.toList == t137.toList) = false := beq_eq_false_iff_ne.mpr c30
                          have c30b1 : (t135.toList != t137.toList) = true := bne_iff_ne.mpr c30
                          obtain rfl := Option.some.inj H
                          go_wp2_with (first | ((with_reducible refine gate_callee (f := 11) rfl ?_); refine goesL_ (some 42) rfl rfl Try.func11 (by kernel_rfl) rfl #[.string a0] rfl (by (try simp only [List.map_toArray, List.map_cons, List.map_nil]); first | done | rfl | (simp only [List.length_drop, List.length_take]; rfl)) ?_; (with_reducible refine (names_May.calls kj12 a0 t140 _ A19.out).mono ?_); rintro e w' ⟨rfl, ⟨nd, rfl⟩⟩; refine ⟨_, rfl, ?_⟩) | ((with_reducible refine gate_callee (f := 10) rfl ?_); refine goesL_ (some 44) rfl rfl Try.func10 (by kernel_rfl) rfl #[.string a0] rfl (by (try simp only [List.map_toArray, List.map_cons, List.map_nil]); first | done | rfl | (simp only [List.length_drop, List.length_take]; rfl)) ?_; (with_reducible refine (crossroadsref12_NameMay.calls a0 t141 _ A20.out).mono ?_); rintro e w33 ⟨rfl, hb⟩; refine ⟨_, rfl, ?_⟩; have n0_ := Aside0.mk (below_step (by repeat (first | (with_reducible first | exact HB.out | apply below_alloc | apply pw_below_drewN | apply below_drew1) | exact HB.out)) hb); clear HB; have HB := n0_; clear n0_; (try clear hb); (try clear hb2); (try clear hk); (try clear hi)) | (go_at_call 12; (with_reducible refine (names_Deep.calls kj12 a0 t142 _ A24.out).mono ?_); rintro e w' ⟨rfl, ⟨nd, rfl⟩⟩) | (go_at_call 13; (with_reducible refine (names_Less.calls kj12 a0 a1 t143 _ A26.out).mono ?_); rintro e w34 ⟨rfl, hb⟩; have n0_ := Aside0.mk (below_step (by repeat (first | (with_reducible first | exact HB.out | apply below_alloc | apply pw_below_drewN | apply below_drew1) | exact HB.out)) hb); clear HB; have HB := n0_; clear n0_; (try clear hb); (try clear hb2); (try clear hk); (try clear hi)))
                          go_ret
                          exact ⟨by first | rfl | (simp [errW_none, errW_some] <;> rfl) | (simp [*, errW_none, errW_some] <;> rfl), by repeat (first | (with_reducible first | exact HB.out | apply below_alloc | apply pw_below_drewN | apply below_drew1) | exact HB.out)⟩
                    · rw [if_neg c25] at H
                      exact absurd H (by simp)
                  · rw [if_neg c23] at H
                    exact absurd H (by simp)
                · rw [if_neg c22] at H
                  exact absurd H (by simp)
              · rw [if_neg c21] at H
                exact absurd H (by simp)
  · replace c4 := Bool.eq_false_iff.mpr c4
    subst c4
    have H1 : (none) = some r := by rw [if_neg (show ¬ (false = true) by decide)] at H; exact H
    clear H
    have H := H1
    clear H1
    exact absurd H (by simp)

/-- THE ONE PURE STATEMENT of crossroadslaw12_NamesSplit. -/
def crossroadslaw12_NamesSplit.Pure : Prop := ∀ (a0 : ByteArray) (a1 : ByteArray), a0.size ≤ 140737488351232 → a1.size ≤ 140737488351232 → ∃ k, crossroadslaw12_NamesSplit.f k a0 a1 = some true

end Go.Proofs.Ytpkdmnjonfophaa.P
