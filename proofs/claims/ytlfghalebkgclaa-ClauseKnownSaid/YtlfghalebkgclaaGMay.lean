/- clause.May, walked by hand. -/
import Derived.Test.YtlfghalebkgclaaProg
import Derived.Below
import Derived.Deep.Draws
import Derived.Deep.AppendLies
import Derived.Maps.AppendAt
import Derived.OwnWalk
import Derived.Laws.BytesArg
import Derived.Laws.MakeOwn
import Derived.Laws.OwnMore
import Derived.Deep.OwnRows
import Derived.Tactics
import Derived.Lib.ConvBytes
import Derived.Laws.Slices
import Derived.WalkKit
import Derived.WalkSpells
import Derived.KernelRfl
import Derived.RowKit3
import Derived.Deep.LoopGhost
import Derived.Deep.QuietTactic
import Derived.BigQuiet
import Derived.WideLaws
import Derived.Deep.DeepCutAuto
import Derived.Deep.CutBlock
import Derived.Deep.RegionHeld3
import Derived.Laws.Rows
import Derived.Lib.AppendStr
import Derived.ArgAppend
import Derived.Laws.IdiomCopy
import Derived.OrdersHeld
import Derived.Laws.BitsLemmas
import Derived.RowKit
import Derived.Test.YtlfghalebkgclaaWMore
import Derived.Test.YtlfghalebkgclaaWInvWords
import Derived.Test.YtlfghalebkgclaaWGuard
import Derived.Test.YtlfghalebkgclaaWNEv
import Derived.Test.YtlfghalebkgclaaGCmp
namespace Go.Proofs.Ytlfghalebkgclaa.G
set_option linter.unusedVariables false
set_option linter.unusedSimpArgs false
open Go.RowKit Go.Proofs.YtlfghalebkgclaaW.PrintWords Go.Proofs.YtlfghalebkgclaaW.PrintLast Go.Proofs.YtlfghalebkgclaaW.PrintMore
def okV (n v : Int) : Bool := decide (1 ≤ num v) && decide (num v ≤ n)
def mayF (n : Int) (f : List (List Int)) : Bool := decide (0 ≤ n) && decide (n ≤ 65536) && f.all fun c => c.all fun v => okV n v
theorem rdL_getD (f : List (List Int)) (i : Int) : f.getD i.toNat [] = f.getD i.toNat [] := rfl
set_option maxRecDepth 100000 in
set_option maxHeartbeats 2000000 in
theorem may17 (w : World) (n : Int) (A : Option Addr) (c : Nat) (f : List (List Int)) (hr : Kd.C (Kd.slice 3 (Kd.int .i64)) w A f.length f) :
    Calls Try.prog 17 #[.int .i64 n, .slice A f.length c] w fun e w' => e = .returned (.bool (mayF n f)) ∧ w' = w := by
  obtain ⟨r, hres⟩ : ∃ r, mayF n f = r := ⟨_, rfl⟩
  rw [hres]
  have HRES := Aside0.mk hres
  clear hres
  have hlen := hr.2.1
  have HR := Aside0.mk hr
  clear hr
  by_cases h0 : n < 0
  · have d0 : decide (n < 0) = true := decide_eq_true h0
    have hE : Aside0 (r = false) := ⟨by rw [← HRES.out]; unfold mayF; rw [decide_eq_false (show ¬ 0 ≤ n by omega)]; rfl⟩
    clear h0
    go_enter Try.func17, Try.ntmps17
    go_wp2
    go_ret
    exact ⟨by rw [hE.out]; rfl, rfl⟩
  by_cases h1 : n ≤ 65536
  · have d0 : decide (n < 0) = false := decide_eq_false h0
    have d1 : decide (65536 < n) = false := decide_eq_false (by omega)
    have hE : Aside0 (r = f.all fun c => c.all fun v => okV n v) := ⟨by rw [← HRES.out]; unfold mayF; rw [decide_eq_true (show 0 ≤ n by omega), decide_eq_true h1]; rfl⟩
    clear HRES
    go_enter Try.func17, Try.ntmps17
    go_wp2
    go_loopg [18] f.length (fun kq v18 w' => ∃ i : Int, v18 = .int .i64 i ∧ Aside0 (0 ≤ i ∧ (kq : Int) + i = f.length) ∧ Aside0 ((f.take i.toNat).all (fun c => c.all fun v => okV n v) = true) ∧ w' = w)
    case atStart => exact ⟨0, rfl, ⟨by omega⟩, ⟨rfl⟩, rfl⟩
    case round =>
      obtain ⟨i, rfl, HI, HA, hww⟩ := hrel
      subst hww
      have hI := HI.out
      by_cases hlt : i < (f.length : Int)
      · have hw1 : wrap64 (i + 1) = i + 1 := by unfold wrap64; omega
        obtain ⟨k1, rfl⟩ : ∃ k1, gk = k1 + 1 := ⟨gk - 1, by omega⟩
        obtain ⟨ad, cs, rfl, -, hk, hcell⟩ := ReadsRow.get_ HR.out [] i (by omega) hlt
        obtain ⟨Ax, cx, rfl, hcx, hCx⟩ := hk
        have hx := hcell 0 _ rfl
        rw [show i.toNat * (Kd.slice 3 (Kd.int .i64)).sz + 0 = i.toNat from by show i.toNat * 1 + 0 = i.toNat; omega] at hx
        obtain ⟨x, hxx⟩ : ∃ x, f.getD i.toNat [] = x := ⟨_, rfl⟩
        rw [hxx] at hx hCx hcx
        have hib : 0 ≤ i ∧ i < (f.length : Int) := ⟨by omega, hlt⟩
        have hxe : f[i.toNat]'(by omega) = x := by
          rw [← hxx, List.getD_eq_getElem?_getD, List.getElem?_eq_getElem (show i.toNat < f.length by omega)]; rfl
        have hxm : x ∈ f := by rw [← hxe]; exact List.getElem_mem _
        have hnx : x.all (fun v => okV n v) = true → (f.take (i + 1).toNat).all (fun c => c.all fun v => okV n v) = true := fun hg => by
          rw [show (i + 1).toNat = i.toNat + 1 by omega, List.take_add_one, List.getElem?_eq_getElem (show i.toNat < f.length by omega), hxe, List.all_append, HA.out]
          simp only [Option.toList, List.all_cons, List.all_nil, hg]; rfl
        have hno : x.all (fun v => okV n v) = false → r = false := fun hg => by rw [hE.out]; exact List.all_eq_false.2 ⟨x, hxm, by rw [hg]; decide⟩
        have hnxA := Aside0.mk hnx
        have hnoA := Aside0.mk hno
        have hCxA := Aside0.mk hCx
        have hxl := hCx.2.1
        clear hnx hno hxe hxm hxx hCx hcell HR HA
        go_wp2
        go_loopg [24] x.length (fun kq v24 w' => ∃ j : Int, v24 = .int .i64 j ∧ Aside0 (0 ≤ j ∧ (kq : Int) + j = x.length) ∧ Aside0 ((x.take j.toNat).all (fun v => okV n v) = true) ∧ w' = wr)
        case atStart => exact ⟨0, rfl, ⟨by omega⟩, ⟨rfl⟩, rfl⟩
        case round =>
          obtain ⟨j, rfl, HJ, HX, hwj⟩ := hrel
          subst hwj
          have hJ := HJ.out
          by_cases hjl : j < (x.length : Int)
          · have hw2 : wrap64 (j + 1) = j + 1 := by unfold wrap64; omega
            obtain ⟨k2, rfl⟩ : ∃ k2, gk = k2 + 1 := ⟨gk - 1, by omega⟩
            obtain ⟨ay, ey, hy⟩ := Kd.at_int hCxA.out j (by omega) hjl
            subst ey
            have hjb : 0 ≤ j ∧ j < (x.length : Int) := ⟨by omega, hjl⟩
            obtain ⟨y, hyy⟩ : ∃ y, rd x j = y := ⟨_, rfl⟩
            rw [hyy] at hy
            have hye : x[j.toNat]'(by omega) = y := by
              rw [← hyy]; unfold rd
              rw [List.getD_eq_getElem?_getD, List.getElem?_eq_getElem (show j.toNat < x.length by omega)]; rfl
            have hym : y ∈ x := by rw [← hye]; exact List.getElem_mem _
            have hnx : okV n y = true → (x.take (j + 1).toNat).all (fun v => okV n v) = true := fun hg => by
              rw [show (j + 1).toNat = j.toNat + 1 by omega, List.take_add_one, List.getElem?_eq_getElem (show j.toNat < x.length by omega), hye, List.all_append, HX.out]
              simp only [Option.toList, List.all_cons, List.all_nil, hg]; rfl
            have hno : okV n y = false → r = false := fun hg => hnoA.out (List.all_eq_false.2 ⟨y, hym, by rw [hg]; decide⟩)
            have hnxB := Aside0.mk hnx
            have hnoB := Aside0.mk hno
            clear hnx hno hye hym hyy
            have hnum := num22 y
            obtain ⟨m, hm⟩ : ∃ m, num y = m := ⟨_, rfl⟩
            have hok : Aside0 (okV n y = (decide (1 ≤ m) && decide (m ≤ n))) := ⟨by unfold okV; rw [hm]⟩
            rw [hm] at hnum
            have hnumA := Aside0.mk hnum
            clear hm hnum
            by_cases q1 : m < 1
            · have e1 : decide (m < 1) = true := decide_eq_true q1
              have hr0 : Aside0 (r = false) := ⟨hnoB.out (by rw [hok.out, decide_eq_false (show ¬ 1 ≤ m by omega)]; rfl)⟩
              clear q1
              go_wp2_with (go_at_call 22; refine (hnumA.out _).mono ?_; rintro e w' ⟨rfl, rfl⟩)
              go_ret
              exact ⟨by rw [hr0.out]; rfl, rfl⟩
            · have e1 : decide (m < 1) = false := decide_eq_false q1
              by_cases q2 : n < m
              · have e2 : decide (n < m) = true := decide_eq_true q2
                have hr0 : Aside0 (r = false) := ⟨hnoB.out (by rw [hok.out, decide_eq_false (show ¬ m ≤ n by omega), Bool.and_false])⟩
                clear q1 q2
                go_wp2_with (go_at_call 22; refine (hnumA.out _).mono ?_; rintro e w' ⟨rfl, rfl⟩)
                go_ret
                exact ⟨by rw [hr0.out]; rfl, rfl⟩
              · have e2 : decide (n < m) = false := decide_eq_false q2
                have hgo : Aside0 (okV n y = true) := ⟨by rw [hok.out, decide_eq_true (show 1 ≤ m by omega), decide_eq_true (show m ≤ n by omega)]; rfl⟩
                clear q1 q2
                go_wp2_with (go_at_call 22; refine (hnumA.out _).mono ?_; rintro e w' ⟨rfl, rfl⟩)
                go_roundg k2
                case measure => omega
                case rel => exact ⟨j + 1, rfl, ⟨by omega⟩, ⟨hnxB.out hgo.out⟩, rfl⟩
          · have hfin : Aside0 (x.all (fun v => okV n v) = true) := ⟨by
              have := HX.out
              rwa [List.take_of_length_le (by omega)] at this⟩
            go_wp2
            go_roundg k1
            case measure => omega
            case rel => exact ⟨i + 1, rfl, ⟨by omega⟩, ⟨hnxA.out hfin.out⟩, rfl⟩
      · have hr1 : Aside0 (r = true) := ⟨by
          have := HA.out
          rw [List.take_of_length_le (by omega)] at this
          rw [hE.out, this]⟩
        go_wp2
        go_ret
        exact ⟨by rw [hr1.out]; rfl, rfl⟩
  · have d0 : decide (n < 0) = false := decide_eq_false h0
    have d1 : decide (65536 < n) = true := decide_eq_true (by omega)
    have hE : Aside0 (r = false) := ⟨by rw [← HRES.out]; unfold mayF; rw [decide_eq_false h1, Bool.and_false]; rfl⟩
    clear h0 h1
    go_enter Try.func17, Try.ntmps17
    go_wp2
    go_ret
    exact ⟨by rw [hE.out]; rfl, rfl⟩
def clause_May.f (a0 : Int) (l1 : List (List Int)) : Option Bool := some (mayF a0 l1)
theorem clause_May.calls (a0 : Int) (A1 : Option Addr) (c1 : Nat) (l1 : List (List Int)) (r : Bool) (w : World) (hr1 : Kd.C (Kd.slice 3 (Kd.int .i64)) w A1 l1.length l1) (hc1 : l1.length ≤ c1) (h : clause_May.f a0 l1 = some r) :
    Calls Try.prog 17 #[.int .i64 a0, .slice A1 l1.length c1] w fun e w' => e = .returned (.bool r) ∧ Below w.heap.size w w' := by
  obtain rfl := Option.some.inj h
  refine (may17 w a0 A1 c1 l1 hr1).mono ?_
  rintro e w' ⟨he, rfl⟩
  exact ⟨he, Below.refl _ _⟩
end Go.Proofs.Ytlfghalebkgclaa.G
