/- Joined by a program of this session out of: GClone, GCmp. -/
import Derived.Test.YtnhpfdnhnocgjaaProg
import Derived.Below
import Derived.Deep.Draws
import Derived.Deep.AppendLies
import Derived.Maps.AppendAt
import Derived.OwnWalk
import Derived.Laws.BytesArg
import Derived.Laws.MakeOwn
import Derived.Laws.OwnMore
import Derived.Deep.OwnRows
import Derived.Tactics
import Derived.Lib.ConvBytes
import Derived.Laws.Slices
import Derived.WalkKit
import Derived.WalkSpells
import Derived.KernelRfl
import Derived.RowKit3
import Derived.Deep.LoopGhost
import Derived.Deep.QuietTactic
import Derived.BigQuiet
import Derived.WideLaws
import Derived.Deep.DeepCutAuto
import Derived.Deep.CutBlock
import Derived.Deep.RegionHeld3
import Derived.Laws.Rows
import Derived.Lib.AppendStr
import Derived.ArgAppend
import Derived.Laws.IdiomCopy
import Derived.OrdersHeld
import Derived.Laws.BitsLemmas
import Derived.RowKit
import Derived.Test.YtnhpfdnhnocgjaaWMore
import Derived.Test.YtnhpfdnhnocgjaaWInvWords
import Derived.Test.YtnhpfdnhnocgjaaWGuard
import Derived.Test.YtnhpfdnhnocgjaaWNEv
import Derived.Test.YtnhpfdnhnocgjaaWRepsOne
import Derived.Sort.Grow
import Derived.Handy
/- slices.Clone walked by hand. -/
namespace Go.Proofs.Ytnhpfdnhnocgjaa.G
open Go.RowKit Go.Proofs.YtnhpfdnhnocgjaaW.PrintWords Go.Proofs.YtnhpfdnhnocgjaaW.PrintLast Go.Proofs.YtnhpfdnhnocgjaaW.PrintMore
set_option linter.unusedVariables false
set_option linter.unusedSimpArgs false
/-- slices.Clone: the same elements, in a row of the call's own (nil for nil). -/
def slices_Clone_int_int.f (l0 : List Int) : Option (List Int) := if l0.length < 17592186044416 then some l0 else none
theorem infoClone3 : (Try.prog.info? 3).map (fun i => (i.zero, i.size, i.bytes)) = some (some (.int .i64 0), 1, 8) := by kernel_rfl
set_option maxHeartbeats 8000000 in
set_option maxRecDepth 100000 in
theorem slices_Clone_int_int.calls (A0 : Option Addr) (c0 : Nat) (l0 : List Int) (r : List Int) (w : World) (hr0 : Kd.C (Kd.int .i64) w A0 l0.length l0) (hc0 : l0.length ≤ c0) (h : slices_Clone_int_int.f l0 = some r) :
    Calls Try.prog 33 #[.slice A0 l0.length c0] w fun e w' => ∃ v0_ : Value, e = .returned (v0_) ∧ Kd.R (Kd.int .i64) 3 w' w.heap.size (fun _ => True) v0_ r ∧ Below w.heap.size w w' := by
  have hnil := fun (W : World) (a : Option Addr) (n c : Nat) => Lib.run_eql_slice_nil (P := Try.prog) W 37 3 a n c 0 0 Try.underlying37
  unfold slices_Clone_int_int.f at h
  by_cases c1 : ¬ l0.length < 17592186044416
  · rw [if_neg c1] at h; exact absurd h (by simp)
  have c2 : l0.length < 17592186044416 := Decidable.not_not.mp c1
  clear c1
  rw [if_pos c2] at h
  obtain rfl := Option.some.inj h
  clear h
  cases A0 with
  | none =>
    have h0 : l0 = [] := by
      rcases Nat.eq_zero_or_pos l0.length with h0 | h0
      · exact List.eq_nil_of_length_eq_zero h0
      · obtain ⟨ad, e, _⟩ := hr0.2.2 h0; cases e
    subst h0
    clear hr0 c2
    go_enter Try.func33, Try.ntmps33
    go_wp2
    go_ret
    exact ⟨_, rfl, Kd.R_nil _ _ _ _ _, Below.refl _ _⟩
  | some a0 =>
    have HR0 := Aside0.mk hr0
    have HC0 := Aside0.mk hc0
    clear hr0 hc0
    have HB := Aside0.mk (Below.refl w.heap.size w)
    have LMc2 := Aside0.mk c2
    clear c2
    go_enter Try.func33, Try.ntmps33
    go_wp2_with (first | ((with_reducible refine gate_dst (N := 5) rfl ?_); refine Kd.R_lit (Kd.int .i64) _ 3 ?hg (N := 5) ?hd (xs := ([] : List Int)) (inner := []) (ok := fun _ => True) (okp := fun _ => True) ?hr ?hp (fun _ hk => hk) trivial (Below.refl _ _) (Nat.le_refl _) (by simp) ?_; (case hd => rfl); (case hg => rfl); (case hr => first | (go_simp; done) | (go_simp; rfl)); (case hp => exact (Reps.none _ _)); intro v105 w3 ho4 hb hg_ hnew_; clear hg_ hnew_; have n0_ := Aside0.mk (Kd.R_lower ho4 (below_size (by repeat (first | (with_reducible first | exact HB.out | apply below_alloc | apply pw_below_drewN | apply below_drew1) | exact HB.out)))); have n1_ := Aside0.mk (below_step (by repeat (first | (with_reducible first | exact HB.out | apply below_alloc | apply pw_below_drewN | apply below_drew1) | exact HB.out)) hb); clear HB; have HO106 := n0_; have HB := n1_; clear n0_ n1_; clear hb ho4) | ((with_reducible refine gate_builtin (b := .append) (xs := #[.tmp 5, .tmp 6]) rfl ?_); at_builtin; refine Kd.R_append_rows (Kd.int .i64) (w0 := w) w.heap.size rfl (.tmp 5) (.tmp 6) 37 3 (.int .i64 0) 8 rfl Try.underlying37 infoClone3 rfl (by decide) (by omega) v105 [] l0 _ _ _ (fun _ => True) (fun _ => False) rfl rfl ?aO ?aR (fun _ _ h => h) (fun _ h => h.elim) ?aF ?aB ?aS ?aL ?_; (case aR => repeat (first | exact (Kd.C_below HR0.out HB.out) | (with_reducible refine Kd.C_alloc ?_ _) | (with_reducible refine Kd.C_drewN ?_ _) | (with_reducible refine Kd.C_drew ?_))); (case aB => exact (by repeat (first | (with_reducible first | exact HB.out | apply below_alloc | apply pw_below_drewN | apply below_drew1) | exact HB.out))); (case aF => exact (fun _ _ => trivial)); (case aO => exact (by (with_reducible repeat (first | apply Kd.R_alloc | apply Kd.R_drewN | apply Kd.R_drew)); exact HO106.out)); (case aS => exact (below_size (by repeat (first | (with_reducible first | exact HB.out | apply below_alloc | apply pw_below_drewN | apply below_drew1) | exact HB.out)))); (case aL => have := LMc2.out; simp only [List.length_nil]; omega); intro v108 w5 ho hb hg hat; rw [List.nil_append] at ho; have n0_ := Aside0.mk (hb); have n1_ := Aside0.mk (ho); clear HB; clear HO106; have HB := n0_; have HO109 := n1_; clear n0_ n1_; clear ho hb hg hat))
    go_ret
    exact ⟨_, rfl, by (with_reducible repeat (first | apply Kd.R_alloc | apply Kd.R_drewN | apply Kd.R_drew)); exact HO109.out, by repeat (first | (with_reducible first | exact HB.out | apply below_alloc | apply pw_below_drewN | apply below_drew1) | exact HB.out)⟩
end Go.Proofs.Ytnhpfdnhnocgjaa.G
/- What clause.Normal's two closures and cmp's functions compute, walked by hand. -/
namespace Go.Proofs.Ytnhpfdnhnocgjaa.G
set_option linter.unusedVariables false
set_option linter.unusedSimpArgs false
open Go.RowKit Go.Proofs.YtnhpfdnhnocgjaaW.PrintWords Go.Proofs.YtnhpfdnhnocgjaaW.PrintLast Go.Proofs.YtnhpfdnhnocgjaaW.PrintMore
/-- A literal's number. -/
def num (v : Int) : Int := if v = (-9223372036854775808) then 0 else mx v (wrap64 (-v))
/-- cmp.Compare. -/
def cmpI (x y : Int) : Int := if x < y then -1 else if y < x then 1 else 0
/-- Normal's order. -/
def cfN (x y : Int) : Int := if cmpI (num x) (num y) ≠ 0 then cmpI (num x) (num y) else cmpI y x
theorem num24 (v : Int) (W : World) : Calls Try.prog 24 #[.int .i64 v] W fun e w' => e = .returned (.int .i64 (num v)) ∧ w' = W := by
  obtain ⟨m, hm⟩ : ∃ m, mx v (wrap64 (-v)) = m := ⟨_, rfl⟩
  unfold num
  rw [hm]
  by_cases c : v = (-9223372036854775808)
  · rw [if_pos c]
    have c0 : (v == (-9223372036854775808)) = true := beq_iff_eq.mpr c
    clear c hm
    go_enter Try.func24, Try.ntmps24
    go_wp2
    go_ret
    exact ⟨rfl, rfl⟩
  · rw [if_neg c]
    have c0 : (v == (-9223372036854775808)) = false := beq_eq_false_iff_ne.mpr c
    clear c
    have hmA := Aside0.mk hm
    clear hm
    go_enter Try.func24, Try.ntmps24
    go_wp2
    all_goals (go_ret; exact ⟨by rw [← hmA.out]; unfold mx; first | (rw [if_pos (by omega)]; rfl) | (rw [if_neg (by omega)]; rfl), rfl⟩)
theorem nan46 (v : Int) (W : World) : Calls Try.prog 46 #[.int .i64 v] W fun e w' => e = .returned (.bool false) ∧ w' = W := by
  have c0 : (v != v) = false := bne_self_eq_false v
  go_enter Try.func46, Try.ntmps46
  go_wp2
  go_ret
  exact ⟨by simp, rfl⟩
theorem cmp38 (x y : Int) (W : World) : Calls Try.prog 38 #[.int .i64 x, .int .i64 y] W fun e w' => e = .returned (.int .i64 (cmpI x y)) ∧ w' = W := by
  unfold cmpI
  by_cases c : x < y
  · rw [if_pos c]
    have c0 : decide (x < y) = true := decide_eq_true c
    clear c
    go_enter Try.func38, Try.ntmps38
    go_wp2_with (go_at_call 46; refine (nan46 _ _).mono ?_; rintro e w' ⟨rfl, rfl⟩)
    go_ret
    exact ⟨rfl, rfl⟩
  · rw [if_neg c]
    have c0 : decide (x < y) = false := decide_eq_false c
    clear c
    by_cases d : y < x
    · rw [if_pos d]
      have d0 : decide (y < x) = true := decide_eq_true d
      clear d
      go_enter Try.func38, Try.ntmps38
      go_wp2_with (go_at_call 46; refine (nan46 _ _).mono ?_; rintro e w' ⟨rfl, rfl⟩)
      go_ret
      exact ⟨rfl, rfl⟩
    · rw [if_neg d]
      have d0 : decide (y < x) = false := decide_eq_false d
      clear d
      go_enter Try.func38, Try.ntmps38
      go_wp2_with (go_at_call 46; refine (nan46 _ _).mono ?_; rintro e w' ⟨rfl, rfl⟩)
      go_ret
      exact ⟨rfl, rfl⟩
theorem or37 (p : Nat) (a b : Int) (W : World) (h0 : W.cell? ⟨p, 0, none⟩ = some (.int .i64 a)) (h1 : W.cell? ⟨p, 1, none⟩ = some (.int .i64 b)) :
    Calls Try.prog 37 #[.slice (some ⟨p, 0, none⟩) 2 2] W fun e w' => e = .returned (.int .i64 (if a ≠ 0 then a else b)) ∧ w' = W := by
  by_cases c : a = 0
  · rw [if_neg (by simpa using c)]
    subst c
    by_cases d : b = 0
    · subst d
      go_enter Try.func37, Try.ntmps37
      go_wp2
      go_rounds 3
      go_ret
      exact ⟨rfl, rfl⟩
    · have d0 : (b != 0) = true := bne_iff_ne.mpr d
      clear d
      go_enter Try.func37, Try.ntmps37
      go_wp2
      go_rounds 3
      go_ret
      exact ⟨rfl, rfl⟩
  · rw [if_pos c]
    have d0 : (a != 0) = true := bne_iff_ne.mpr c
    clear c
    go_enter Try.func37, Try.ntmps37
    go_wp2
    go_rounds 3
    go_ret
    exact ⟨rfl, rfl⟩
theorem clos34 (v : Int) (W : World) : Calls Try.prog 34 #[.int .i64 v] W fun e w' => e = .returned (.bool (decide (num v = 0))) ∧ w' = W := by
  obtain ⟨r, hr⟩ : ∃ r, (num v == 0) = r := ⟨_, rfl⟩
  have hr' : Aside0 (decide (num v = 0) = r) := ⟨by rw [← hr]; rfl⟩
  go_enter Try.func34, Try.ntmps34
  go_wp2_with (go_at_call 24; refine (num24 _ _).mono ?_; rintro e w' ⟨rfl, rfl⟩)
  go_ret
  exact ⟨by rw [hr'.out]; rfl, rfl⟩
theorem clos36 (x y : Int) (W : World) : Calls Try.prog 36 #[.int .i64 x, .int .i64 y] W fun e w' => e = .returned (.int .i64 (cfN x y)) ∧ ∃ q os, w' = Sort.grow (W.drewN q) os := by
  go_enter Try.func36, Try.ntmps36
  go_wp2_with (first | (go_at_call 24; refine (num24 _ _).mono ?_; rintro e w' ⟨rfl, rfl⟩) | (go_at_call 38; refine (cmp38 _ _ _).mono ?_; rintro e w' ⟨rfl, rfl⟩))
  have hor := or37 w'.heap.size (cmpI (num x) (num y)) (cmpI y x) (w'.alloc (Obj.cells #[Value.int IntKind.i64 (cmpI (num x) (num y)), Value.int IntKind.i64 (cmpI y x)] 3)) (by rw [World.cell?_alloc_mark]; rfl) (by rw [World.cell?_alloc_mark]; rfl)
  rw [show (if cmpI (num x) (num y) ≠ 0 then cmpI (num x) (num y) else cmpI y x) = cfN x y from rfl] at hor
  refine hor.mono ?_
  rintro e w2 ⟨rfl, rfl⟩
  clear hor
  go_wp2
  go_ret
  exact ⟨rfl, 0, #[_], by rw [Sort.alloc_eq_grow]; rfl⟩
end Go.Proofs.Ytnhpfdnhnocgjaa.G
