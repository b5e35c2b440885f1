/- ClauseNormal, walked by hand over its callees' contracts: any literals. -/
import Derived.Test.YtlfghalebkgclaaLemB
namespace Go.Proofs.Ytlfghalebkgclaa.NormalW
set_option linter.unusedVariables false
set_option linter.unusedSimpArgs false
open Go.RowKit Go.Proofs.Ytlfghalebkgclaa.G Go.Proofs.Ytlfghalebkgclaa.P Go.Proofs.Ytlfghalebkgclaa.Lem Go.Proofs.YtlfghalebkgclaaW.PrintWords Go.Proofs.YtlfghalebkgclaaW.PrintLast Go.Proofs.YtlfghalebkgclaaW.PrintMore
theorem rows_one {W : World} {b : Nat} {A : Option Addr} {c : Nat} {l : List Int} (h : W.cell? ⟨b, 0, none⟩ = some (.slice A l.length c)) (hl : l.length ≤ c) (hC : Kd.C (Kd.int .i64) W A l.length l) : Kd.C (Kd.slice 3 (Kd.int .i64)) W (some ⟨b, 0, none⟩) 1 [l] := by
  refine ⟨rfl, by omega, fun _ => ⟨_, rfl, fun j p hj => ?_⟩⟩
  cases j with
  | zero =>
    injection hj with hj
    subst hj
    refine ⟨[.slice A l.length c], rfl, ⟨A, c, rfl, hl, hC⟩, fun i u hu => ?_⟩
    cases i with
    | zero =>
      injection hu with hu
      subst hu
      exact h
    | succ i => simp at hu
  | succ j => simp at hj
/-- Normal of what Normal gave is that. -/
theorem norm_again (c a : List Int) (h : normN c = (a, false)) : normN a = (a, false) ∧ ∀ v, v ∈ a ↔ v ∈ c ∧ num v ≠ 0 := by
  rw [normN_eq] at h
  unfold endN at h
  by_cases hc : clash (rowN c) = true
  · rw [if_pos hc] at h; injection h with _ h; cases h
  · rw [if_neg hc] at h
    injection h with h _
    have hm : ∀ v, v ∈ a ↔ v ∈ c ∧ num v ≠ 0 := fun v => by rw [← h]; exact rowN_mem c v
    have he : rowN a = a := by
      refine uniq _ _ (rowN_pair a) (by rw [← h]; exact rowN_pair c) fun v => ?_
      rw [rowN_mem]
      exact ⟨fun x => x.1, fun x => ⟨x, ((hm v).1 x).2⟩⟩
    refine ⟨?_, hm⟩
    rw [normN_eq, he]
    unfold endN
    rw [← h, if_neg hc]
theorem norm_len (c a : List Int) (t : Bool) (h : normN c = (a, t)) : a.length ≤ c.length := by
  have hr : (rowN c).length ≤ c.length := by
    unfold rowN Lib.compactUpTo
    rw [List.length_map]
    refine Nat.le_trans (List.length_filter_le _ _) ?_
    rw [List.length_range]
    unfold sortN
    rw [List.length_mergeSort]
    exact List.length_filter_le _ _
  rw [normN_eq] at h
  unfold endN at h
  split at h
  · injection h with h _; rw [← h]; exact Nat.zero_le _
  · injection h with h _; rw [← h]; exact hr
theorem any_again (m : List Bool) (c a : List Int) (hw : ∀ v ∈ c, W64 v) (hm : ∀ v, v ∈ a ↔ v ∈ c ∧ num v ≠ 0) : evalB m [a] = evalB m [c] := by
  unfold evalB
  rw [List.all_cons, List.all_nil, List.all_cons, List.all_nil, Bool.and_true, Bool.and_true, Bool.eq_iff_iff, List.any_eq_true, List.any_eq_true]
  constructor
  · rintro ⟨v, hv, h⟩
    exact ⟨v, ((hm v).1 hv).1, h⟩
  · rintro ⟨v, hv, h⟩
    refine ⟨v, (hm v).2 ⟨hv, fun h0 => ?_⟩, h⟩
    have hz := (num_zero (hw v hv)).1 h0
    have hwv := hw v hv
    unfold W64 at hwv
    unfold holdsB at h
    rw [if_pos (by unfold wrap64 at hz; omega)] at h
    cases h
theorem eval_one {W : World} {b : Nat} {A1 : Option Addr} {c1 K : Nat} {l : List Int} {m : List Bool} {z : Bool} (h : crossroadsref1_Eval.f K [l] m = some z) (h0 : Kd.C (Kd.slice 3 (Kd.int .i64)) W (some ⟨b, 0, none⟩) 1 [l]) (h1 : Kd.C Kd.bool W A1 m.length m) (hc : m.length ≤ c1) :
    Calls Try.prog 13 #[.slice (some ⟨b, 0, none⟩) 1 1, .slice A1 m.length c1] W fun e w' => e = .returned (.bool z) ∧ Below W.heap.size W w' := crossroadsref1_Eval.calls K _ 1 [l] A1 c1 m z W h0 (Nat.le_refl _) h1 hc h
set_option maxRecDepth 100000 in
set_option maxHeartbeats 2000000 in
theorem normal_big (w : World) (A0 : Option Addr) (c0 : Nat) (c : List Int) (A1 : Option Addr) (c1 : Nat) (m : List Bool) (K : Nat) (hA : crossroadslaw4_awake.f K = some true) (h : c.length > 300 ∨ m.length > 1000) :
    Calls Try.prog 3 #[.slice A0 c.length c0, .slice A1 m.length c1] w fun e w' => e = .returned (.bool true) ∧ Below w.heap.size w w' := by
  have hAA := Aside0.mk hA
  clear hA
  by_cases h1 : (300 : Int) < c.length
  · have d1 : decide ((300 : Int) < (c.length : Int)) = true := decide_eq_true h1
    clear h h1
    go_enter Try.func3, Try.ntmps3
    go_wp2_with (go_at_call 9; refine (crossroadslaw4_awake.calls K true _ hAA.out).mono ?_; rintro e w1 ⟨rfl, hB1⟩)
    go_ret
    exact ⟨rfl, hB1⟩
  · have d1 : decide ((300 : Int) < (c.length : Int)) = false := decide_eq_false h1
    have d2 : decide ((1000 : Int) < (m.length : Int)) = true := decide_eq_true (by omega)
    clear h h1
    go_enter Try.func3, Try.ntmps3
    go_wp2_with (go_at_call 9; refine (crossroadslaw4_awake.calls K true _ hAA.out).mono ?_; rintro e w1 ⟨rfl, hB1⟩)
    go_ret
    exact ⟨rfl, hB1⟩
set_option maxRecDepth 100000 in
set_option maxHeartbeats 4000000 in
theorem normal_small (w : World) (A0 : Option Addr) (c0 : Nat) (c : List Int) (A1 : Option Addr) (c1 : Nat) (m : List Bool) (hr0 : Kd.C (Kd.int .i64) w A0 c.length c) (hc0 : c.length ≤ c0) (hr1 : Kd.C Kd.bool w A1 m.length m) (hc1 : m.length ≤ c1)
    (hw : ∀ v ∈ c, W64 v) (h1 : c.length ≤ 300) (h2 : m.length ≤ 1000) :
    Calls Try.prog 3 #[.slice A0 c.length c0, .slice A1 m.length c1] w fun e w' => e = .returned (.bool true) ∧ Below w.heap.size w w' := by
  obtain ⟨⟨a, t⟩, hn⟩ : ∃ x, normN c = x := ⟨_, rfl⟩
  have hal := norm_len c a t hn
  obtain ⟨Ka, hA⟩ := awake_is
  have hs1 := same_is a a (by omega)
  rw [decide_eq_true rfl] at hs1
  obtain ⟨Ks, hS⟩ := hs1
  have hcame : Came [c] := ⟨by simp, fun d hd => by rw [List.mem_singleton.1 hd]; exact ⟨by omega, hw⟩⟩
  obtain ⟨Ke, hE⟩ := reval_is hcame (show m.length ≤ 140737488351232 by omega)
  have d1 : decide ((300 : Int) < (c.length : Int)) = false := decide_eq_false (by omega)
  have d2 : decide ((1000 : Int) < (m.length : Int)) = false := decide_eq_false (by omega)
  have hAA := Aside0.mk (show crossroadslaw4_awake.f Ka = some true from hA Ka (Nat.le_refl _))
  have hSA := Aside0.mk (show crossroadslaw4_same.f Ks a a = some true from hS Ks (Nat.le_refl _))
  have hEA := Aside0.mk (show crossroadsref1_Eval.f Ke [c] m = some (evalB m [c]) from hE Ke (Nat.le_refl _))
  have hN1 : Aside0 (clause_Normal.f c = some (a, t)) := ⟨by unfold clause_Normal.f; rw [if_pos (by omega), hn]⟩
  have hN2 : Aside0 (crossroadsref1_Normal.f c = some (a, t)) := ⟨by unfold crossroadsref1_Normal.f; rw [if_pos (by omega), ← norm_eq c hw, hn]⟩
  have HR0 := Aside0.mk hr0
  have HC0 := Aside0.mk hc0
  have HR1 := Aside0.mk hr1
  have HC1 := Aside0.mk hc1
  have hnA := Aside0.mk hn
  have hwA := Aside0.mk hw
  have halA := Aside0.mk hal
  clear hr0 hc0 hr1 hc1 hA hS hE hcame hn hw hal
  cases t with
  | true =>
    go_enter Try.func3, Try.ntmps3
    go_wp2_with (first
      | (go_at_call 9; refine (crossroadslaw4_awake.calls Ka true _ hAA.out).mono ?_; rintro e w1 ⟨rfl, hB1⟩; have HB1 := Aside0.mk hB1; clear hB1)
      | (go_at_call 10; refine (clause_Normal.calls A0 c0 c a true _ (Kd.C_below HR0.out HB1.out) HC0.out hN1.out).mono ?_; rintro e w2 ⟨v2, rfl, hR2, hB2⟩; have HB2 := Aside0.mk (HB1.out.trans (hB2.mono HB1.out.size)); have HRa := Aside0.mk hR2; clear hR2 hB2)
      | (go_at_call 11; refine (crossroadsref1_Normal.calls A0 c0 c a true _ (Kd.C_below HR0.out HB2.out) HC0.out hN2.out).mono ?_; rintro e w3 ⟨v3, rfl, hR3, hB3⟩; have HB3 := Aside0.mk (HB2.out.trans (hB3.mono HB2.out.size)); have HRb := Aside0.mk hR3; have HRc := Aside0.mk (Kd.R_below HRa.out hB3); clear hR3 hB3; obtain ⟨A5, c5, e5⟩ := Kd.R_slice HRc.out; subst e5; obtain ⟨A6, c6, e6⟩ := Kd.R_slice HRb.out; subst e6)
      | (go_at_call 12; refine (crossroadslaw4_same.calls Ks A5 c5 a A6 c6 a true _ (Kd.R_reads' HRc.out).2.2 (Kd.R_reads' HRc.out).2.1 (Kd.R_reads' HRb.out).2.2 (Kd.R_reads' HRb.out).2.1 hSA.out).mono ?_; rintro e w4 ⟨rfl, ⟨nd, rfl⟩⟩))
    go_ret
    exact ⟨rfl, pw_below_drewN HB3.out nd⟩
  | false =>
    have hag := norm_again c a hnA.out
    have hN3 : Aside0 (clause_Normal.f a = some (a, false)) := ⟨by have := halA.out; unfold clause_Normal.f; rw [if_pos (by omega), hag.1]⟩
    have hwa : ∀ v ∈ a, W64 v := fun v hv => hwA.out v ((hag.2 v).1 hv).1
    have hev := any_again m c a hwA.out hag.2
    have hcame : Came [a] := ⟨by simp, fun d hd => by rw [List.mem_singleton.1 hd]; have := halA.out; exact ⟨by omega, hwa⟩⟩
    obtain ⟨Kf, hF⟩ := reval_is hcame (show m.length ≤ 140737488351232 by omega)
    have hFA := Aside0.mk (show crossroadsref1_Eval.f Kf [a] m = some (evalB m [c]) from by rw [← hev]; exact hF Kf (Nat.le_refl _))
    obtain ⟨z, hz⟩ : ∃ z, evalB m [c] = z := ⟨_, rfl⟩
    rw [hz] at hEA hFA
    clear hag hwa hev hcame hF hz
    go_enter Try.func3, Try.ntmps3
    go_wp2_with (first
      | (go_at_call 9; refine (crossroadslaw4_awake.calls Ka true _ hAA.out).mono ?_; rintro e w1 ⟨rfl, hB1⟩; have HB1 := Aside0.mk hB1; clear hB1)
      | (go_at_call 10; (with_reducible refine (clause_Normal.calls A0 c0 c a false _ ?ra HC0.out hN1.out).mono ?_); (case ra => exact Kd.C_below HR0.out HB1.out); rintro e w2 ⟨v2, rfl, hR2, hB2⟩; have HB2 := Aside0.mk (HB1.out.trans (hB2.mono HB1.out.size)); have HRa := Aside0.mk hR2; clear hR2 hB2)
      | (go_at_call 11; refine (crossroadsref1_Normal.calls A0 c0 c a false _ (Kd.C_below HR0.out HB2.out) HC0.out hN2.out).mono ?_; rintro e w3 ⟨v3, rfl, hR3, hB3⟩; have HB3 := Aside0.mk (HB2.out.trans (hB3.mono HB2.out.size)); have HRb := Aside0.mk hR3; have HRc := Aside0.mk (Kd.R_below HRa.out hB3); clear hR3 hB3; obtain ⟨A5, c5, e5⟩ := Kd.R_slice HRc.out; subst e5; obtain ⟨A6, c6, e6⟩ := Kd.R_slice HRb.out; subst e6)
      | (go_at_call 12; (with_reducible refine (crossroadslaw4_same.calls Ks A5 c5 a A6 c6 a true _ ?sa ?sb ?sc ?sd hSA.out).mono ?_); (case sa => exact (Kd.R_reads' HRc.out).2.2); (case sb => exact (Kd.R_reads' HRc.out).2.1); (case sc => exact (Kd.R_reads' HRb.out).2.2); (case sd => exact (Kd.R_reads' HRb.out).2.1); rintro e w4 ⟨rfl, ⟨nd, rfl⟩⟩)
      | (go_at_call 10; (with_reducible refine (clause_Normal.calls A5 c5 a a false _ ?ta ?tb hN3.out).mono ?_); (case ta => exact Kd.C_drewN (Kd.R_reads' HRc.out).2.2 nd); (case tb => exact (Kd.R_reads' HRc.out).2.1); rintro e w5 ⟨v5, rfl, hR5, hB5⟩; have HB5 := Aside0.mk ((pw_below_drewN HB3.out nd).trans (hB5.mono HB3.out.size)); have HRd := Aside0.mk hR5; have HRe := Aside0.mk (Kd.C_below (Kd.C_drewN (Kd.R_reads' HRc.out).2.2 nd) hB5); have HCe := Aside0.mk (Kd.R_reads' HRc.out).2.1; clear hR5 hB5; obtain ⟨A7, c7, e7⟩ := Kd.R_slice HRd.out; subst e7)
      | (go_at_call 12; (with_reducible refine (crossroadslaw4_same.calls Ks A7 c7 a A5 c5 a true _ ?ua ?ub ?uc ?ud hSA.out).mono ?_); (case ua => exact (Kd.R_reads' HRd.out).2.2); (case ub => exact (Kd.R_reads' HRd.out).2.1); (case uc => exact HRe.out); (case ud => exact HCe.out); rintro e w6 ⟨rfl, ⟨ne, rfl⟩⟩)
      | (go_at_call 13; (with_reducible refine (eval_one hFA.out ?xr ?xc HC1.out).mono ?_); (case xr => refine rows_one (A := A5) (c := c5) ?xa HCe.out ?xb; (case xa => (show (World.alloc (w5.drewN ne) _).cell? ⟨(w5.drewN ne).heap.size, 0, none⟩ = _; rw [World.cell?_alloc_mark]; rfl)); (case xb => exact Kd.C_alloc (Kd.C_drewN HRe.out ne) _)); (case xc => exact Kd.C_alloc (Kd.C_drewN (Kd.C_below HR1.out HB5.out) ne) _); rintro e w7 ⟨rfl, hB7⟩; have HB7 := Aside0.mk ((below_alloc (pw_below_drewN HB5.out ne) _).trans (hB7.mono (below_alloc (pw_below_drewN HB5.out ne) _).size)); clear hB7)
      | (go_at_call 13; (with_reducible refine (eval_one hEA.out ?yr ?yc HC1.out).mono ?_); (case yr => refine rows_one (A := A0) (c := c0) ?ya HC0.out ?yb; (case ya => (rw [World.cell?_alloc_mark]; rfl)); (case yb => exact Kd.C_alloc (Kd.C_below HR0.out HB7.out) _)); (case yc => exact Kd.C_alloc (Kd.C_below HR1.out HB7.out) _); rintro e w8 ⟨rfl, hB8⟩; have HB8 := Aside0.mk ((below_alloc HB7.out _).trans (hB8.mono (below_alloc HB7.out _).size)); clear hB8))
    go_ret
    exact ⟨by simp, HB8.out⟩
/-- Any literals, any truth values. -/
theorem normal_any (w : World) (A0 : Option Addr) (c0 : Nat) (c : List Int) (A1 : Option Addr) (c1 : Nat) (m : List Bool) (hr0 : Kd.C (Kd.int .i64) w A0 c.length c) (hc0 : c.length ≤ c0) (hr1 : Kd.C Kd.bool w A1 m.length m) (hc1 : m.length ≤ c1)
    (hw : ∀ v ∈ c, (Lit.int .i64 v).wf = true) : Calls Try.prog 3 #[.slice A0 c.length c0, .slice A1 m.length c1] w fun e w' => e = .returned (.bool true) ∧ Below w.heap.size w w' := by
  by_cases h : c.length > 300 ∨ m.length > 1000
  · obtain ⟨K, hA⟩ := awake_is
    exact normal_big w A0 c0 c A1 c1 m K (hA K (Nat.le_refl _)) h
  · exact normal_small w A0 c0 c A1 c1 m hr0 hc0 hr1 hc1 (fun v hv => wf64 (hw v hv)) (by omega) (by omega)
end Go.Proofs.Ytlfghalebkgclaa.NormalW
