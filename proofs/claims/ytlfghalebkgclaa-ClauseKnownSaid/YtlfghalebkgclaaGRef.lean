/- The reference's Normal, walked by hand: literals put in one by one, in order. -/
import Derived.Test.YtlfghalebkgclaaProg
import Derived.Below
import Derived.Deep.Draws
import Derived.Deep.AppendLies
import Derived.Maps.AppendAt
import Derived.OwnWalk
import Derived.Laws.BytesArg
import Derived.Laws.MakeOwn
import Derived.Laws.OwnMore
import Derived.Deep.OwnRows
import Derived.Tactics
import Derived.Lib.ConvBytes
import Derived.Laws.Slices
import Derived.WalkKit
import Derived.WalkSpells
import Derived.KernelRfl
import Derived.RowKit3
import Derived.Deep.LoopGhost
import Derived.Deep.QuietTactic
import Derived.BigQuiet
import Derived.WideLaws
import Derived.Deep.DeepCutAuto
import Derived.Deep.CutBlock
import Derived.Deep.RegionHeld3
import Derived.Laws.Rows
import Derived.Lib.AppendStr
import Derived.ArgAppend
import Derived.Laws.IdiomCopy
import Derived.OrdersHeld
import Derived.Laws.BitsLemmas
import Derived.RowKit
import Derived.Test.YtlfghalebkgclaaWMore
import Derived.Test.YtlfghalebkgclaaWInvWords
import Derived.Test.YtlfghalebkgclaaWGuard
import Derived.Test.YtlfghalebkgclaaWNEv
import Derived.Test.YtlfghalebkgclaaGCmp
import Derived.Test.YtlfghalebkgclaaGClone
namespace Go.Proofs.Ytlfghalebkgclaa.G
set_option linter.unusedVariables false
set_option linter.unusedSimpArgs false
open Go.RowKit Go.Proofs.YtlfghalebkgclaaW.PrintWords Go.Proofs.YtlfghalebkgclaaW.PrintLast Go.Proofs.YtlfghalebkgclaaW.PrintMore
/-- A literal's number, as the reference reckons it. -/
def numR (v : Int) : Int := mx v (wrap64 (-v))
def lessR (a b : Int) : Bool := decide (numR a < numR b) || (decide (numR a = numR b) && decide (b < a))
theorem less28 (a b : Int) (W : World) : Calls Try.prog 28 #[.int .i64 a, .int .i64 b] W fun e w' => e = .returned (.bool (lessR a b)) ∧ w' = W := by
  obtain ⟨r, hr⟩ : ∃ r, lessR a b = r := ⟨_, rfl⟩
  rw [hr]
  have hrA := Aside0.mk hr
  clear hr
  obtain ⟨x, hx⟩ : ∃ x, numR a = x := ⟨_, rfl⟩
  obtain ⟨y, hy⟩ : ∃ y, numR b = y := ⟨_, rfl⟩
  obtain ⟨na, hna⟩ : ∃ na, wrap64 (-a) = na := ⟨_, rfl⟩
  obtain ⟨nb, hnb⟩ : ∃ nb, wrap64 (-b) = nb := ⟨_, rfl⟩
  have hxe : x = mx a na := by rw [← hx, ← hna]; rfl
  have hye : y = mx b nb := by rw [← hy, ← hnb]; rfl
  have hrr : r = (decide (x < y) || (decide (x = y) && decide (b < a))) := by rw [← hrA.out, ← hx, ← hy]; rfl
  clear hrA hx hy
  unfold mx at hxe hye
  by_cases ca : a < na
  · rw [if_pos ca] at hxe
    have da : decide (a < na) = true := decide_eq_true ca
    by_cases cb : b < nb
    · rw [if_pos cb] at hye
      have db : decide (b < nb) = true := decide_eq_true cb
      by_cases c1 : x < y
      · have r1 : Aside0 (r = true) := ⟨by rw [hrr, decide_eq_true c1]; rfl⟩
        subst x; subst y
        have d1 : decide (na < nb) = true := decide_eq_true c1
        clear hrr c1
        go_enter Try.func28, Try.ntmps28
        go_wp2
        go_ret
        exact ⟨by rw [r1.out]; rfl, rfl⟩
      · by_cases c2 : x = y
        · by_cases c3 : b < a
          · have r1 : Aside0 (r = true) := ⟨by rw [hrr, decide_eq_false c1, decide_eq_true c2, decide_eq_true c3]; rfl⟩
            subst x; subst y
            have d1 : decide (na < nb) = false := decide_eq_false c1
            have d2 : (na == nb) = true := beq_iff_eq.mpr c2
            have d3 : decide (b < a) = true := decide_eq_true c3
            have c2A := Aside0.mk c2
            clear hrr c1 c2 c3
            go_enter Try.func28, Try.ntmps28
            go_wp2
            go_ret
            exact ⟨by rw [r1.out]; rfl, rfl⟩
          · have r1 : Aside0 (r = false) := ⟨by rw [hrr, decide_eq_false c1, decide_eq_true c2, decide_eq_false c3]; rfl⟩
            subst x; subst y
            have d1 : decide (na < nb) = false := decide_eq_false c1
            have d2 : (na == nb) = true := beq_iff_eq.mpr c2
            have d3 : decide (b < a) = false := decide_eq_false c3
            have c2A := Aside0.mk c2
            clear hrr c1 c2 c3
            go_enter Try.func28, Try.ntmps28
            go_wp2
            go_ret
            exact ⟨by rw [r1.out]; rfl, rfl⟩
        · have r1 : Aside0 (r = false) := ⟨by rw [hrr, decide_eq_false c1, decide_eq_false c2]; rfl⟩
          subst x; subst y
          have d1 : decide (na < nb) = false := decide_eq_false c1
          have d2 : (na == nb) = false := beq_eq_false_iff_ne.mpr c2
          clear hrr c1 c2
          go_enter Try.func28, Try.ntmps28
          go_wp2
          go_ret
          exact ⟨by rw [r1.out]; rfl, rfl⟩
    · rw [if_neg cb] at hye
      have db : decide (b < nb) = false := decide_eq_false cb
      by_cases c1 : x < y
      · have r1 : Aside0 (r = true) := ⟨by rw [hrr, decide_eq_true c1]; rfl⟩
        subst x; subst y
        have d1 : decide (na < b) = true := decide_eq_true c1
        clear hrr c1
        go_enter Try.func28, Try.ntmps28
        go_wp2
        go_ret
        exact ⟨by rw [r1.out]; rfl, rfl⟩
      · by_cases c2 : x = y
        · by_cases c3 : b < a
          · have r1 : Aside0 (r = true) := ⟨by rw [hrr, decide_eq_false c1, decide_eq_true c2, decide_eq_true c3]; rfl⟩
            subst x; subst y
            have d1 : decide (na < b) = false := decide_eq_false c1
            have d2 : (na == b) = true := beq_iff_eq.mpr c2
            have d3 : decide (b < a) = true := decide_eq_true c3
            have c2A := Aside0.mk c2
            clear hrr c1 c2 c3
            go_enter Try.func28, Try.ntmps28
            go_wp2
            go_ret
            exact ⟨by rw [r1.out]; rfl, rfl⟩
          · have r1 : Aside0 (r = false) := ⟨by rw [hrr, decide_eq_false c1, decide_eq_true c2, decide_eq_false c3]; rfl⟩
            subst x; subst y
            have d1 : decide (na < b) = false := decide_eq_false c1
            have d2 : (na == b) = true := beq_iff_eq.mpr c2
            have d3 : decide (b < a) = false := decide_eq_false c3
            have c2A := Aside0.mk c2
            clear hrr c1 c2 c3
            go_enter Try.func28, Try.ntmps28
            go_wp2
            go_ret
            exact ⟨by rw [r1.out]; rfl, rfl⟩
        · have r1 : Aside0 (r = false) := ⟨by rw [hrr, decide_eq_false c1, decide_eq_false c2]; rfl⟩
          subst x; subst y
          have d1 : decide (na < b) = false := decide_eq_false c1
          have d2 : (na == b) = false := beq_eq_false_iff_ne.mpr c2
          clear hrr c1 c2
          go_enter Try.func28, Try.ntmps28
          go_wp2
          go_ret
          exact ⟨by rw [r1.out]; rfl, rfl⟩
  · rw [if_neg ca] at hxe
    have da : decide (a < na) = false := decide_eq_false ca
    by_cases cb : b < nb
    · rw [if_pos cb] at hye
      have db : decide (b < nb) = true := decide_eq_true cb
      by_cases c1 : x < y
      · have r1 : Aside0 (r = true) := ⟨by rw [hrr, decide_eq_true c1]; rfl⟩
        subst x; subst y
        have d1 : decide (a < nb) = true := decide_eq_true c1
        clear hrr c1
        go_enter Try.func28, Try.ntmps28
        go_wp2
        go_ret
        exact ⟨by rw [r1.out]; rfl, rfl⟩
      · by_cases c2 : x = y
        · by_cases c3 : b < a
          · have r1 : Aside0 (r = true) := ⟨by rw [hrr, decide_eq_false c1, decide_eq_true c2, decide_eq_true c3]; rfl⟩
            subst x; subst y
            have d1 : decide (a < nb) = false := decide_eq_false c1
            have d2 : (a == nb) = true := beq_iff_eq.mpr c2
            have d3 : decide (b < a) = true := decide_eq_true c3
            have c2A := Aside0.mk c2
            clear hrr c1 c2 c3
            go_enter Try.func28, Try.ntmps28
            go_wp2
            go_ret
            exact ⟨by rw [r1.out]; rfl, rfl⟩
          · have r1 : Aside0 (r = false) := ⟨by rw [hrr, decide_eq_false c1, decide_eq_true c2, decide_eq_false c3]; rfl⟩
            subst x; subst y
            have d1 : decide (a < nb) = false := decide_eq_false c1
            have d2 : (a == nb) = true := beq_iff_eq.mpr c2
            have d3 : decide (b < a) = false := decide_eq_false c3
            have c2A := Aside0.mk c2
            clear hrr c1 c2 c3
            go_enter Try.func28, Try.ntmps28
            go_wp2
            go_ret
            exact ⟨by rw [r1.out]; rfl, rfl⟩
        · have r1 : Aside0 (r = false) := ⟨by rw [hrr, decide_eq_false c1, decide_eq_false c2]; rfl⟩
          subst x; subst y
          have d1 : decide (a < nb) = false := decide_eq_false c1
          have d2 : (a == nb) = false := beq_eq_false_iff_ne.mpr c2
          clear hrr c1 c2
          go_enter Try.func28, Try.ntmps28
          go_wp2
          go_ret
          exact ⟨by rw [r1.out]; rfl, rfl⟩
    · rw [if_neg cb] at hye
      have db : decide (b < nb) = false := decide_eq_false cb
      by_cases c1 : x < y
      · have r1 : Aside0 (r = true) := ⟨by rw [hrr, decide_eq_true c1]; rfl⟩
        subst x; subst y
        have d1 : decide (a < b) = true := decide_eq_true c1
        clear hrr c1
        go_enter Try.func28, Try.ntmps28
        go_wp2
        go_ret
        exact ⟨by rw [r1.out]; rfl, rfl⟩
      · by_cases c2 : x = y
        · by_cases c3 : b < a
          · have r1 : Aside0 (r = true) := ⟨by rw [hrr, decide_eq_false c1, decide_eq_true c2, decide_eq_true c3]; rfl⟩
            subst x; subst y
            have d1 : decide (a < b) = false := decide_eq_false c1
            have d2 : (a == b) = true := beq_iff_eq.mpr c2
            have d3 : decide (b < a) = true := decide_eq_true c3
            have c2A := Aside0.mk c2
            clear hrr c1 c2 c3
            go_enter Try.func28, Try.ntmps28
            go_wp2
            go_ret
            exact ⟨by rw [r1.out]; rfl, rfl⟩
          · have r1 : Aside0 (r = false) := ⟨by rw [hrr, decide_eq_false c1, decide_eq_true c2, decide_eq_false c3]; rfl⟩
            subst x; subst y
            have d1 : decide (a < b) = false := decide_eq_false c1
            have d2 : (a == b) = true := beq_iff_eq.mpr c2
            have d3 : decide (b < a) = false := decide_eq_false c3
            have c2A := Aside0.mk c2
            clear hrr c1 c2 c3
            go_enter Try.func28, Try.ntmps28
            go_wp2
            go_ret
            exact ⟨by rw [r1.out]; rfl, rfl⟩
        · have r1 : Aside0 (r = false) := ⟨by rw [hrr, decide_eq_false c1, decide_eq_false c2]; rfl⟩
          subst x; subst y
          have d1 : decide (a < b) = false := decide_eq_false c1
          have d2 : (a == b) = false := beq_eq_false_iff_ne.mpr c2
          clear hrr c1 c2
          go_enter Try.func28, Try.ntmps28
          go_wp2
          go_ret
          exact ⟨by rw [r1.out]; rfl, rfl⟩
end Go.Proofs.Ytlfghalebkgclaa.G
