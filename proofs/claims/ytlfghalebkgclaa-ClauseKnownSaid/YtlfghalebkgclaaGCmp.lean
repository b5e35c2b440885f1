/- What clause.Normal's two closures and cmp's functions compute, walked by hand. -/
import Derived.Test.YtlfghalebkgclaaProg
import Derived.Below
import Derived.Deep.Draws
import Derived.Deep.AppendLies
import Derived.Maps.AppendAt
import Derived.OwnWalk
import Derived.Laws.BytesArg
import Derived.Laws.MakeOwn
import Derived.Laws.OwnMore
import Derived.Deep.OwnRows
import Derived.Tactics
import Derived.Lib.ConvBytes
import Derived.Laws.Slices
import Derived.WalkKit
import Derived.WalkSpells
import Derived.KernelRfl
import Derived.RowKit3
import Derived.Deep.LoopGhost
import Derived.Deep.QuietTactic
import Derived.BigQuiet
import Derived.WideLaws
import Derived.Deep.DeepCutAuto
import Derived.Deep.CutBlock
import Derived.Deep.RegionHeld3
import Derived.Laws.Rows
import Derived.Lib.AppendStr
import Derived.ArgAppend
import Derived.Laws.IdiomCopy
import Derived.OrdersHeld
import Derived.Laws.BitsLemmas
import Derived.RowKit
import Derived.Test.YtlfghalebkgclaaWMore
import Derived.Test.YtlfghalebkgclaaWInvWords
import Derived.Test.YtlfghalebkgclaaWGuard
import Derived.Test.YtlfghalebkgclaaWNEv
import Derived.Test.YtlfghalebkgclaaWRepsOne
import Derived.Sort.Grow
import Derived.Handy
namespace Go.Proofs.Ytlfghalebkgclaa.G
set_option linter.unusedVariables false
set_option linter.unusedSimpArgs false
open Go.RowKit Go.Proofs.YtlfghalebkgclaaW.PrintWords Go.Proofs.YtlfghalebkgclaaW.PrintLast Go.Proofs.YtlfghalebkgclaaW.PrintMore
/-- A literal's number. -/
def num (v : Int) : Int := if v = (-9223372036854775808) then 0 else mx v (wrap64 (-v))
/-- cmp.Compare. -/
def cmpI (x y : Int) : Int := if x < y then -1 else if y < x then 1 else 0
/-- Normal's order. -/
def cfN (x y : Int) : Int := if cmpI (num x) (num y) ≠ 0 then cmpI (num x) (num y) else cmpI y x
theorem num22 (v : Int) (W : World) : Calls Try.prog 22 #[.int .i64 v] W fun e w' => e = .returned (.int .i64 (num v)) ∧ w' = W := by
  obtain ⟨m, hm⟩ : ∃ m, mx v (wrap64 (-v)) = m := ⟨_, rfl⟩
  unfold num
  rw [hm]
  by_cases c : v = (-9223372036854775808)
  · rw [if_pos c]
    have c0 : (v == (-9223372036854775808)) = true := beq_iff_eq.mpr c
    clear c hm
    go_enter Try.func22, Try.ntmps22
    go_wp2
    go_ret
    exact ⟨rfl, rfl⟩
  · rw [if_neg c]
    have c0 : (v == (-9223372036854775808)) = false := beq_eq_false_iff_ne.mpr c
    clear c
    have hmA := Aside0.mk hm
    clear hm
    go_enter Try.func22, Try.ntmps22
    go_wp2
    all_goals (go_ret; exact ⟨by rw [← hmA.out]; unfold mx; first | (rw [if_pos (by omega)]; rfl) | (rw [if_neg (by omega)]; rfl), rfl⟩)
theorem nan36 (v : Int) (W : World) : Calls Try.prog 36 #[.int .i64 v] W fun e w' => e = .returned (.bool false) ∧ w' = W := by
  have c0 : (v != v) = false := bne_self_eq_false v
  go_enter Try.func36, Try.ntmps36
  go_wp2
  go_ret
  exact ⟨by simp, rfl⟩
theorem cmp26 (x y : Int) (W : World) : Calls Try.prog 26 #[.int .i64 x, .int .i64 y] W fun e w' => e = .returned (.int .i64 (cmpI x y)) ∧ w' = W := by
  unfold cmpI
  by_cases c : x < y
  · rw [if_pos c]
    have c0 : decide (x < y) = true := decide_eq_true c
    clear c
    go_enter Try.func26, Try.ntmps26
    go_wp2_with (go_at_call 36; refine (nan36 _ _).mono ?_; rintro e w' ⟨rfl, rfl⟩)
    go_ret
    exact ⟨rfl, rfl⟩
  · rw [if_neg c]
    have c0 : decide (x < y) = false := decide_eq_false c
    clear c
    by_cases d : y < x
    · rw [if_pos d]
      have d0 : decide (y < x) = true := decide_eq_true d
      clear d
      go_enter Try.func26, Try.ntmps26
      go_wp2_with (go_at_call 36; refine (nan36 _ _).mono ?_; rintro e w' ⟨rfl, rfl⟩)
      go_ret
      exact ⟨rfl, rfl⟩
    · rw [if_neg d]
      have d0 : decide (y < x) = false := decide_eq_false d
      clear d
      go_enter Try.func26, Try.ntmps26
      go_wp2_with (go_at_call 36; refine (nan36 _ _).mono ?_; rintro e w' ⟨rfl, rfl⟩)
      go_ret
      exact ⟨rfl, rfl⟩
theorem or25 (p : Nat) (a b : Int) (W : World) (h0 : W.cell? ⟨p, 0, none⟩ = some (.int .i64 a)) (h1 : W.cell? ⟨p, 1, none⟩ = some (.int .i64 b)) :
    Calls Try.prog 25 #[.slice (some ⟨p, 0, none⟩) 2 2] W fun e w' => e = .returned (.int .i64 (if a ≠ 0 then a else b)) ∧ w' = W := by
  by_cases c : a = 0
  · rw [if_neg (by simpa using c)]
    subst c
    by_cases d : b = 0
    · subst d
      go_enter Try.func25, Try.ntmps25
      go_wp2
      go_rounds 3
      go_ret
      exact ⟨rfl, rfl⟩
    · have d0 : (b != 0) = true := bne_iff_ne.mpr d
      clear d
      go_enter Try.func25, Try.ntmps25
      go_wp2
      go_rounds 3
      go_ret
      exact ⟨rfl, rfl⟩
  · rw [if_pos c]
    have d0 : (a != 0) = true := bne_iff_ne.mpr c
    clear c
    go_enter Try.func25, Try.ntmps25
    go_wp2
    go_rounds 3
    go_ret
    exact ⟨rfl, rfl⟩
theorem clos21 (v : Int) (W : World) : Calls Try.prog 21 #[.int .i64 v] W fun e w' => e = .returned (.bool (decide (num v = 0))) ∧ w' = W := by
  obtain ⟨r, hr⟩ : ∃ r, (num v == 0) = r := ⟨_, rfl⟩
  have hr' : Aside0 (decide (num v = 0) = r) := ⟨by rw [← hr]; rfl⟩
  go_enter Try.func21, Try.ntmps21
  go_wp2_with (go_at_call 22; refine (num22 _ _).mono ?_; rintro e w' ⟨rfl, rfl⟩)
  go_ret
  exact ⟨by rw [hr'.out]; rfl, rfl⟩
theorem clos24 (x y : Int) (W : World) : Calls Try.prog 24 #[.int .i64 x, .int .i64 y] W fun e w' => e = .returned (.int .i64 (cfN x y)) ∧ ∃ q os, w' = Sort.grow (W.drewN q) os := by
  go_enter Try.func24, Try.ntmps24
  go_wp2_with (first | (go_at_call 22; refine (num22 _ _).mono ?_; rintro e w' ⟨rfl, rfl⟩) | (go_at_call 26; refine (cmp26 _ _ _).mono ?_; rintro e w' ⟨rfl, rfl⟩))
  have hor := or25 w'.heap.size (cmpI (num x) (num y)) (cmpI y x) (w'.alloc (Obj.cells #[Value.int IntKind.i64 (cmpI (num x) (num y)), Value.int IntKind.i64 (cmpI y x)] 3)) (by rw [World.cell?_alloc_mark]; rfl) (by rw [World.cell?_alloc_mark]; rfl)
  rw [show (if cmpI (num x) (num y) ≠ 0 then cmpI (num x) (num y) else cmpI y x) = cfN x y from rfl] at hor
  refine hor.mono ?_
  rintro e w2 ⟨rfl, rfl⟩
  clear hor
  go_wp2
  go_ret
  exact ⟨rfl, 0, #[_], by rw [Sort.alloc_eq_grow]; rfl⟩
end Go.Proofs.Ytlfghalebkgclaa.G
