/- clause.Normal, walked by hand. -/
import Derived.Test.YtlfghalebkgclaaProg
import Derived.Below
import Derived.Deep.Draws
import Derived.Deep.AppendLies
import Derived.Maps.AppendAt
import Derived.OwnWalk
import Derived.Laws.BytesArg
import Derived.Laws.MakeOwn
import Derived.Laws.OwnMore
import Derived.Deep.OwnRows
import Derived.Tactics
import Derived.Lib.ConvBytes
import Derived.Laws.Slices
import Derived.WalkKit
import Derived.WalkSpells
import Derived.KernelRfl
import Derived.RowKit3
import Derived.Deep.LoopGhost
import Derived.Deep.QuietTactic
import Derived.BigQuiet
import Derived.WideLaws
import Derived.Deep.DeepCutAuto
import Derived.Deep.CutBlock
import Derived.Deep.RegionHeld3
import Derived.Laws.Rows
import Derived.Lib.AppendStr
import Derived.ArgAppend
import Derived.Laws.IdiomCopy
import Derived.OrdersHeld
import Derived.Laws.BitsLemmas
import Derived.RowKit
import Derived.Test.YtlfghalebkgclaaWMore
import Derived.Test.YtlfghalebkgclaaWInvWords
import Derived.Test.YtlfghalebkgclaaWGuard
import Derived.Test.YtlfghalebkgclaaWNEv
import Derived.Test.YtlfghalebkgclaaGNormA
namespace Go.Proofs.Ytlfghalebkgclaa.G
set_option linter.unusedVariables false
set_option linter.unusedSimpArgs false
open Go.RowKit Go.Proofs.YtlfghalebkgclaaW.PrintWords Go.Proofs.YtlfghalebkgclaaW.PrintLast Go.Proofs.YtlfghalebkgclaaW.PrintMore
open Go.Lib
set_option maxHeartbeats 200000 in
theorem index_nil (w : World) : Calls Try.prog 33 #[.slice none 0 0, .func (.func 21) #[] #[]] w fun e w' => e = .returned (.int .i64 (-1)) ∧ w' = w := by
  go_enter Try.func33, Try.ntmps33
  go_wp2
  refine wp_loop_rounds 1 ?_
  rw [rounds_succ]
  go_wp2
  go_ret
  exact ⟨rfl, rfl⟩
set_option maxHeartbeats 200000 in
theorem del_nil (w : World) : Calls Try.prog 19 #[.slice none 0 0, .func (.func 21) #[] #[]] w fun e w' => e = .returned (.slice none 0 0) ∧ w' = w := by
  go_enter Try.func19, Try.ntmps19
  go_wp2_with (go_at_call 33; refine (index_nil _).mono ?_; rintro e w' ⟨rfl, rfl⟩)
  go_ret
  exact ⟨rfl, rfl⟩
set_option maxHeartbeats 200000 in
theorem comp_nil (w : World) : Calls Try.prog 27 #[.slice none 0 0] w fun e w' => e = .returned (.slice none 0 0) ∧ w' = w := by
  go_enter Try.func27, Try.ntmps27
  go_wp2
  go_ret
  exact ⟨rfl, rfl⟩
theorem sort_nil (w : World) : Calls Try.prog 23 #[.slice none 0 0, .func (.func 24) #[] #[]] w fun e w' => e = .returned (.tuple #[]) ∧ w' = w := by
  have h := AnyF.slices_SortFunc_none (P := Try.prog) (ρ := Try.sortL_ren) { Try.sortL with } none 0 (.func (.func 24) #[] #[]) w
  exact h
set_option maxRecDepth 100000 in
set_option maxHeartbeats 1000000 in
theorem clause_normal (w : World) (A : Option Addr) (c : Nat) (l : List Int) (hr : Kd.C (Kd.int .i64) w A l.length l) (hc : l.length ≤ c) (hlim : l.length < 17592186044416) (r1 : List Int) (r2 : Bool) (hres : normN l = (r1, r2)) :
    Calls Try.prog 10 #[.slice A l.length c] w fun e w' => ∃ v0_ : Value, e = .returned (.tuple #[v0_, .bool r2]) ∧ Kd.R (Kd.int .i64) 3 w' w.heap.size (fun _ => True) v0_ r1 ∧ Below w.heap.size w w' := by
  have hcl := slices_Clone_int_int.calls A c l l w hr hc (by unfold slices_Clone_int_int.f; rw [if_pos hlim])
  have hclA := Aside0.mk hcl
  clear hcl
  have HRES := Aside0.mk hres
  have hlimA := Aside0.mk hlim
  clear hr hc hres hlim
  go_enter Try.func10, Try.ntmps10
  go_wp2_with (go_at_call 20; refine hclA.out.mono ?_; rintro e w1 ⟨v0, rfl, hR1, hB1⟩)
  rcases own_of hR1 with ⟨hv, hl⟩ | ⟨g, cap, hv, hg, hO⟩
  · subst hv
    subst hl
    have hE : Aside0 (r1 = [] ∧ r2 = false) := ⟨by
      have h := HRES.out
      have e : normN [] = ([], false) := by
        unfold normN sortN
        rw [List.filter_nil, List.mergeSort_nil]; rfl
      rw [e] at h
      injection h with h1 h2
      exact ⟨h1.symm, h2.symm⟩⟩
    have HB := Aside0.mk hB1
    clear hR1 hB1 HRES hclA
    go_wp2_with (first | (go_at_call 19; refine (del_nil _).mono ?_; rintro e w' ⟨rfl, rfl⟩) | (go_at_call 23; refine (sort_nil _).mono ?_; rintro e w' ⟨rfl, rfl⟩) | (go_at_call 27; refine (comp_nil _).mono ?_; rintro e w' ⟨rfl, rfl⟩))
    refine wp_loop_rounds 1 ?_
    rw [rounds_succ]
    go_wp2
    go_ret2
    obtain ⟨h1, h2⟩ := hE.out
    subst h1
    subst h2
    exact ⟨_, rfl, Kd.R_nil _ _ _ _ _, HB.out⟩
  · subst hv
    have hdel := del19 w1 g cap l hO
    have hlf := List.length_filter_le keepN l
    have hsortA : Aside0 (∀ W, OwnB W g cap (l.filter keepN) → Calls Try.prog 23 #[.slice (some ⟨g, 0, none⟩) (l.filter keepN).length cap, .func (.func 24) #[] #[]] W fun e w' => e = .returned (.tuple #[]) ∧ OwnB w' g cap (sortN l) ∧ ∀ B w0, B ≤ g → Below B w0 W → Below B w0 w') := ⟨fun W hW => sort23 W g cap _ hW (by have := hlimA.out; omega)⟩
    have hls : (sortN l).length = (l.filter keepN).length := List.length_mergeSort _
    obtain ⟨m, hm⟩ : ∃ m, (l.filter keepN).length = m := ⟨_, rfl⟩
    have hcompA : Aside0 (∀ W, OwnB W g cap (sortN l) → Calls Try.prog 27 #[.slice (some ⟨g, 0, none⟩) m cap] W fun e w' => e = .returned (.slice (some ⟨g, 0, none⟩) (compactUpTo (sortN l).toArray (sortN l).length).length cap) ∧ OwnB w' g cap (compactUpTo (sortN l).toArray (sortN l).length) ∧ ∀ B w0, B ≤ g → Below B w0 W → Below B w0 w') := ⟨fun W hW => by
      have := comp27 W g cap _ hW
      rw [hls, hm] at this
      rw [hls, hm]
      exact this⟩
    rw [hm] at hdel hsortA
    have hdelA := Aside0.mk hdel
    obtain ⟨R, hR⟩ : ∃ R, compactUpTo (sortN l).toArray (sortN l).length = R := ⟨_, rfl⟩
    rw [hR] at hcompA
    have hE0 : Aside0 (endN R = (r1, r2)) := ⟨by rw [← hR]; exact HRES.out⟩
    have HB := Aside0.mk hB1
    have hgA := Aside0.mk hg
    clear hdel hlf hls hm hR HRES hR1 hO hB1 hclA hlimA hg
    go_wp2_with (first | (go_at_call 19; refine hdelA.out.mono ?_; rintro e w2 ⟨rfl, hO2, hB2⟩) | (go_at_call 23; refine (hsortA.out _ hO2).mono ?_; rintro e w3 ⟨rfl, hO3, hB3⟩) | (go_at_call 27; refine (hcompA.out _ hO3).mono ?_; rintro e w4 ⟨rfl, hO4, hB4⟩))
    have HB4 : Aside0 (Below w.heap.size w w4) := ⟨hB4 _ _ hgA.out (hB3 _ _ hgA.out (hB2 _ _ hgA.out HB.out))⟩
    have HO4 := Aside0.mk (hO4.row hgA.out)
    have HC4 := Aside0.mk (Kd.R_reads' HO4.out).2.2
    have hRl : R.length ≤ 9223372036854775807 := Kd.C_max HC4.out
    clear hO2 hO3 hO4 hB2 hB3 hB4 hdelA hsortA hcompA HB
    rename World => wz
    go_loopg [15] R.length (fun kq v15 w' => ∃ j : Int, v15 = .int .i64 j ∧ Aside0 (0 ≤ j ∧ (kq : Int) + j = R.length) ∧ Aside0 (∀ t : Int, 0 < t → t < j → rdOf 0 R t ≠ wrap64 (-(rdOf 0 R (t - 1)))) ∧ Aside0 (∃ q, w' = wz.drewN q))
    case atStart => exact ⟨0, rfl, ⟨by omega⟩, ⟨fun t h1 h2 => absurd h2 (by omega)⟩, ⟨0, rfl⟩⟩
    case round =>
      obtain ⟨j, rfl, HJ, HL, HD⟩ := hrel
      have hJ := HJ.out
      obtain ⟨q, hq⟩ := HD.out
      subst hq
      by_cases hjl : j < (R.length : Int)
      · have hw2 : wrap64 (j + 1) = j + 1 := by unfold wrap64; omega
        have hw3 : wrap64 (j - 1) = j - 1 := by unfold wrap64; omega
        obtain ⟨hx4, -⟩ := Kd.R_celln (enc := Value.int .i64) (h1 := fun _ => rfl) (0 : Int) HO4.out j (by omega) hjl
        have hjb : 0 ≤ j ∧ j < (R.length : Int) := ⟨by omega, hjl⟩
        obtain ⟨k2, rfl⟩ : ∃ k2, gk = k2 + 1 := ⟨gk - 1, by omega⟩
        by_cases hj0 : 0 < j
        · obtain ⟨hx5, -⟩ := Kd.R_celln (enc := Value.int .i64) (h1 := fun _ => rfl) (0 : Int) HO4.out (j - 1) (by omega) (by omega)
          have hd0 : decide (0 < j) = true := decide_eq_true hj0
          have hjc : 0 ≤ j - 1 ∧ j - 1 < (R.length : Int) := ⟨by omega, by omega⟩
          obtain ⟨y, hy⟩ : ∃ y, rdOf 0 R j = y := ⟨_, rfl⟩
          rw [hy] at hx4
          have hyA : Aside0 (rdOf 0 R j = y) := ⟨hy⟩
          clear hy
          obtain ⟨z, hz⟩ : ∃ z, rdOf 0 R (j - 1) = z := ⟨_, rfl⟩
          rw [hz, show (j - 1).toNat = j.toNat - 1 by omega] at hx5
          have hzA : Aside0 (rdOf 0 R (j - 1) = z) := ⟨hz⟩
          clear hz
          have hx4d : ∀ m, (wz.drewN m).cell? ⟨g, j.toNat, none⟩ = some (.int .i64 y) := fun _ => hx4
          have hx5d : ∀ m, (wz.drewN m).cell? ⟨g, j.toNat - 1, none⟩ = some (.int .i64 z) := fun _ => hx5
          by_cases hc : y = wrap64 (-z)
          · have b1 : (y == wrap64 (-z)) = true := beq_iff_eq.mpr hc
            have hcl : clash R = true := clash_at (i := j) (by omega) hjl (by rw [hyA.out, hzA.out]; exact hc)
            have hE : Aside0 (r1 = [] ∧ r2 = true) := ⟨by
              have h := hE0.out
              unfold endN at h
              rw [if_pos hcl] at h
              injection h with h1 h2
              exact ⟨h1.symm, h2.symm⟩⟩
            clear hc hcl
            go_wp2
            go_quiet (fail)
            all_goals go_wp2
            all_goals go_ret2
            all_goals (obtain ⟨h1, h2⟩ := hE.out; subst h1; subst h2; exact ⟨_, rfl, Kd.R_nil _ _ _ _ _, by repeat (first | exact HB4.out | apply pw_below_drewN | apply below_drew)⟩)
          · have b1 : (y == wrap64 (-z)) = false := beq_eq_false_iff_ne.mpr hc
            have hcA := Aside0.mk hc
            clear hc
            go_wp2
            go_quiet (fail)
            all_goals go_wp2
            all_goals go_roundg k2
            all_goals (first | (case measure => omega) | (case rel => exact ⟨j + 1, rfl, ⟨by omega⟩, ⟨fun t h1 h2 => by
              by_cases ht : t < j
              · exact HL.out t h1 ht
              · rw [show t = j by omega, hyA.out, hzA.out]; exact hcA.out⟩, ⟨⟨_, rfl⟩⟩⟩))
        · obtain rfl : j = 0 := by omega
          have hd0 : decide ((0 : Int) < 0) = false := by decide
          go_wp2
          go_quiet (fail)
          all_goals go_wp2
          all_goals go_roundg k2
          all_goals (first | (case measure => omega) | (case rel => exact ⟨0 + 1, rfl, ⟨by omega⟩, ⟨fun t h1 h2 => absurd h2 (by omega)⟩, ⟨⟨_, rfl⟩⟩⟩))
      · have hcl : clash R = false := clash_no (fun t h1 h2 => HL.out t h1 (by omega))
        have hE : Aside0 (r1 = R ∧ r2 = false) := ⟨by
          have h := hE0.out
          unfold endN at h
          rw [hcl, if_neg (by decide)] at h
          injection h with h1 h2
          exact ⟨h1.symm, h2.symm⟩⟩
        clear hcl
        go_wp2
        go_ret2
        obtain ⟨h1, h2⟩ := hE.out
        subst h1
        subst h2
        exact ⟨_, rfl, Kd.R_below HO4.out (pw_below_drewN (Below.refl _ _) q), by repeat (first | exact HB4.out | apply pw_below_drewN | apply below_drew)⟩
def clause_Normal.f (l0 : List Int) : Option (List Int × Bool) := if l0.length < 17592186044416 then some (normN l0) else none
theorem clause_Normal.calls (A0 : Option Addr) (c0 : Nat) (l0 : List Int) (r1 : List Int) (r2 : Bool) (w : World) (hr0 : Kd.C (Kd.int .i64) w A0 l0.length l0) (hc0 : l0.length ≤ c0) (h : clause_Normal.f l0 = some (r1, r2)) :
    Calls Try.prog 10 #[.slice A0 l0.length c0] w fun e w' => ∃ v0_ : Value, e = .returned (.tuple #[v0_, .bool r2]) ∧ Kd.R (Kd.int .i64) 3 w' w.heap.size (fun _ => True) v0_ r1 ∧ Below w.heap.size w w' := by
  unfold clause_Normal.f at h
  by_cases hl : l0.length < 17592186044416
  · rw [if_pos hl] at h
    exact clause_normal w A0 c0 l0 hr0 hc0 hl r1 r2 (Option.some.inj h)
  · rw [if_neg hl] at h; cases h
end Go.Proofs.Ytlfghalebkgclaa.G
