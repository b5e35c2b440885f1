/- Joined by a program of this session out of: HpT, HpU. -/
import Derived.Test.YtnhpfdnhnocgjaaHpS
import Derived.Test.YtnhpfdnhnocgjaaLemC
/- DpllSolves: walked by hand. -/
namespace Go.Proofs.Ytnhpfdnhnocgjaa.S
open Go.RowKit Go.Proofs.Ytnhpfdnhnocgjaa.D Go.Proofs.Ytnhpfdnhnocgjaa.Lem Go.Proofs.YtnhpfdnhnocgjaaW.PrintWords Go.Proofs.YtnhpfdnhnocgjaaW.PrintLast Go.Proofs.YtnhpfdnhnocgjaaW.PrintMore
set_option linter.unusedVariables false
set_option linter.unusedSimpArgs false
attribute [local go_sem] max2_int min2_int max_two min_two
theorem small11 {w : World} {A : Option Addr} {c : Nat} {F : List (List Int)} (h : In w A c F) (m : Int) : ∃ b, ∀ W, Below w.heap.size w W → Calls Try.prog 11 #[.slice A F.length c, .int .i64 m] W fun e w' => e = .returned (.bool b) ∧ Below W.heap.size W w' := by
  obtain ⟨b, hb⟩ := small_some (f := F) h.came.len m
  obtain ⟨k, hk⟩ := hb.rounds
  refine ⟨b, fun W hW => (P.crossroadslaw4_Small.calls k A c F m b W (Kd.C_below h.row hW) h.cap hk).mono ?_⟩
  rintro e w' ⟨he, hd⟩
  exact ⟨he, hd.below⟩
theorem rmay13 {w : World} {A : Option Addr} {c : Nat} {F : List (List Int)} (h : In w A c F) (n : Int) : Calls Try.prog 13 #[.int .i64 n, .slice A F.length c] w fun e w' => e = .returned (.bool (mayB n F)) ∧ Below w.heap.size w w' := by
  obtain ⟨k, hk⟩ := (rmay_is n F h.came).rounds
  refine (P.crossroadsref1_FormulaMay.calls k n A c F _ w h.row h.cap hk).mono ?_
  rintro e w' ⟨he, hd⟩
  exact ⟨he, hd.below⟩
theorem sat14 {w : World} {A : Option Addr} {c : Nat} {F : List (List Int)} (h : In w A c F) {N : Nat} (hN : N ≤ 24) (hF : ∀ d ∈ F, ∀ v ∈ d, okL N v) : Calls Try.prog 14 #[.int .i64 (N : Int), .slice A F.length c] w fun e w' => e = .returned (.int .i64 (cnt N F [] : Int)) ∧ Below w.heap.size w w' := by
  obtain ⟨k, hk⟩ := (sat_is hN h.came hF).rounds
  exact P.crossroadsref1_Sat.calls k N A c F _ w h.row h.cap hk
theorem eval15 {w : World} {A : Option Addr} {c : Nat} {F : List (List Int)} (h : In w A c F) {N : Nat} (hN : N ≤ 65536) (hF : ∀ d ∈ F, ∀ v ∈ d, okL N v) {v : Value} {a : List Bool} {base : Nat} {ok : Nat → Prop} (hR : Kd.R Kd.bool 4 w base ok v a) (hl : a.length ≤ 65536) : Calls Try.prog 15 #[.slice A F.length c, v] w fun e w' => e = .returned (.bool (satF (bitsOf a) F)) ∧ Below w.heap.size w w' := by
  obtain ⟨k, hk⟩ := (reval_is (f := F) (m := a) h.came (by omega)).rounds
  rw [eval_sat hN hF] at hk
  obtain ⟨A1, c1, rfl⟩ := Kd.R_slice hR
  have hC := (Kd.R_reads' hR)
  exact P.crossroadsref1_Eval.calls k A c F A1 c1 a _ w h.row h.cap hC.2.2 hC.2.1 hk
set_option maxRecDepth 100000 in
set_option maxHeartbeats 4000000 in
theorem solves3 {w : World} {A : Option Addr} {c : Nat} {F : List (List Int)} (h : In w A c F) (n budget : Int) (hbu : budget ≤ 9223372036854775807) :
    Calls Try.prog 3 #[.int .i64 n, .slice A F.length c, .int .i64 budget] w fun e w' => e = .returned (.bool true) ∧ Below w.heap.size w w' := by
  have HI := Aside0.mk h
  obtain ⟨sb, hsb⟩ := small11 h 1000
  have HSM := Aside0.mk hsb
  have HSO := Aside0.mk (fun W (hW : Below w.heap.size w W) => solve12 (h.below hW) n budget)
  have HMY := Aside0.mk (fun W (hW : Below w.heap.size w W) => rmay13 (h.below hW) n)
  have HCO := Aside0.mk (fun W (hW : Below w.heap.size w W) => count16 (h.below hW) n budget hbu)
  obtain ⟨nF, hnF⟩ : ∃ m, F.length = m := ⟨_, rfl⟩
  have HNF := Aside0.mk hnF
  rw [hnF] at HSM HSO HMY HCO ⊢
  clear h hsb hnF
  cases sb with
  | false =>
    go_enter Try.func3, Try.ntmps3
    go_wp2_with (first
      | (go_at_call 11; refine (HSM.out _ HB1.out).mono ?_; rintro e w2 ⟨rfl, hb2⟩; have HB2 := Aside0.mk hb2; clear hb2)
      | (go_at_call 10; refine (awake10 _).mono ?_; rintro e w1 ⟨rfl, hb1⟩; have HB1 := Aside0.mk hb1; clear hb1))
    go_ret
    exact ⟨rfl, HB1.out.trans (HB2.out.mono HB1.out.size)⟩
  | true =>
    by_cases c12 : 12 < n
    · have d12 : decide (12 < n) = true := decide_eq_true c12
      go_enter Try.func3, Try.ntmps3
      go_wp2_with (first
        | (go_at_call 11; refine (HSM.out _ HB1.out).mono ?_; rintro e w2 ⟨rfl, hb2⟩; have HB2 := Aside0.mk hb2; clear hb2)
        | (go_at_call 10; refine (awake10 _).mono ?_; rintro e w1 ⟨rfl, hb1⟩; have HB1 := Aside0.mk hb1; clear hb1))
      go_ret
      exact ⟨rfl, HB1.out.trans (HB2.out.mono HB1.out.size)⟩
    · have d12 : decide (12 < n) = false := decide_eq_false c12
      go_enter Try.func3, Try.ntmps3
      go_upto_region 5 with (first
        | (go_at_call 11; refine (HSM.out _ HB1.out).mono ?_; rintro e w2 ⟨rfl, hb2⟩; have HB2 := Aside0.mk (HB1.out.trans (hb2.mono HB1.out.size)); clear hb2)
        | (go_at_call 10; refine (awake10 _).mono ?_; rintro e w1 ⟨rfl, hb1⟩; have HB1 := Aside0.mk hb1; clear hb1))
      go_upto_region 6 with (go_at_call 12; refine (HSO.out _ HB2.out).mono ?_; rintro e w3 ⟨r, v, a, code, rfl, hR, hb3, hS⟩; have HR := Aside0.mk hR; have HB3 := Aside0.mk (HB2.out.trans (hb3.mono HB2.out.size)); obtain ⟨Av, cv, rfl⟩ := Kd.R_slice hR; have HSS := Aside0.mk hS; clear hb3 hS hR)
      obtain ⟨b, hb⟩ : ∃ b, mayB n F = b := ⟨_, rfl⟩
      have HM := Aside0.mk hb
      rw [hb] at HMY
      clear hb
      cases b with
      | false =>
        have hE : r = 0 ∧ a = [] ∧ code = 1 := by
          rcases HSS.out with h | h
          · exact h.2
          · exact absurd h.1 (by rw [HM.out]; decide)
        obtain ⟨rfl, rfl, rfl⟩ := hE
        go_wp2_with (go_at_call 13; refine (HMY.out _ HB3.out).mono ?_; rintro e w4 ⟨rfl, hb4⟩; have HB4 := Aside0.mk (HB3.out.trans (hb4.mono HB3.out.size)); clear hb4)
        go_ret
        exact ⟨rfl, HB4.out⟩
      | true =>
        by_cases cb : budget < 0
        · have db : decide (budget < 0) = true := decide_eq_true cb
          have hE : r = 0 ∧ a = [] ∧ code = 1 := by
            rcases HSS.out with h | h
            · exact h.2
            · exact absurd h.2.1 (by omega)
          obtain ⟨rfl, rfl, rfl⟩ := hE
          go_wp2_with (go_at_call 13; refine (HMY.out _ HB3.out).mono ?_; rintro e w4 ⟨rfl, hb4⟩; have HB4 := Aside0.mk (HB3.out.trans (hb4.mono HB3.out.size)); clear hb4)
          go_ret
          exact ⟨rfl, HB4.out⟩
        · have db : decide (budget < 0) = false := decide_eq_false cb
          obtain ⟨m0, m1, m2⟩ := (mayB_iff n F).1 HM.out
          obtain ⟨N, rfl⟩ : ∃ N : Nat, n = (N : Int) := ⟨n.toNat, by omega⟩
          rw [Int.toNat_natCast] at m2
          have hN : N ≤ 12 := by omega
          obtain ⟨q, hq⟩ : ∃ q : Nat, cnt N F [] = q := ⟨_, rfl⟩
          have HQ := Aside0.mk hq
          have HSA : Aside0 (∀ W, Below w.heap.size w W → Calls Try.prog 14 #[.int .i64 (N : Int), .slice A nF c] W fun e w' => e = .returned (.int .i64 (q : Int)) ∧ Below W.heap.size W w') := ⟨fun W hW => by
            have := sat14 (HI.out.below hW) (N := N) (by omega) m2
            rwa [hq, HNF.out] at this⟩
          have HCC : Aside0 (∀ W, Below w.heap.size w W → Calls Try.prog 16 #[.int .i64 (N : Int), .slice A nF c, .int .i64 budget] W fun e w' => e = .returned (.tuple #[.int .i64 (minI (q : Int) budget), .int .i64 0]) ∧ Below W.heap.size W w') := ⟨fun W hW => by
            have := HCO.out W hW
            have e : countV (N : Int) F budget = (minI (q : Int) budget, 0) := by
              unfold countV
              rw [if_pos ⟨HM.out, by omega, by omega⟩, Int.toNat_natCast, hq]
            rwa [e] at this⟩
          have HF := Aside0.mk m2
          have hq0 : (0 : Int) ≤ (q : Int) := by omega
          clear m0 m1 m2 hq HCO HSO
          have hcase : code = 0 ∧ ((r = 1 ∧ a.length = N ∧ satF (bitsOf a) F = true) ∨ (r = 2 ∧ a = [] ∧ ∀ s, satF s F = false) ∨ (r = 3 ∧ a = [] ∧ budget < 1099511627776 ∧ budget + 1 ≤ (A1 N : Int) ∧ F ≠ [])) := by
            rcases HSS.out with h | h
            · exact absurd ⟨HM.out, by omega⟩ h.1
            · exact ⟨h.2.2.1, h.2.2.2⟩
          clear HSS
          obtain ⟨rfl, ⟨rfl, hl, hs⟩ | ⟨rfl, rfl, hs⟩ | ⟨rfl, rfl, hx, hy, hz⟩⟩ := hcase
          · have HRR := HR.out
            rw [hl] at HRR ⊢
            have hsz := HB3.out
            have HEV : Aside0 (∀ W, Below w3.heap.size w3 W → Calls Try.prog 15 #[.slice A nF c, .slice Av N cv] W fun e w' => e = .returned (.bool true) ∧ Below W.heap.size W w') := ⟨fun W hW => by
              have := eval15 (HI.out.below (HB3.out.trans (hW.mono HB3.out.size))) (N := N) (by omega) HF.out (Kd.R_below HRR hW) (by omega)
              rwa [hs, HNF.out] at this⟩
            have e1 : ((N : Int) != (N : Int)) = false := bne_self_eq_false _
            have H3 := Aside0.mk (Below.refl w3.heap.size w3)
            clear HRR hsz hl hs
            go_wp2_with (first
              | (go_at_call 16; refine (HCC.out _ (HB3.out.trans (H6.out.mono HB3.out.size))).mono ?_; rintro e w7 ⟨rfl, hb7⟩; have H7 := Aside0.mk (H6.out.trans (hb7.mono H6.out.size)); clear hb7)
              | (go_at_call 15; refine (HEV.out _ H5.out).mono ?_; rintro e w6 ⟨rfl, hb6⟩; have H6 := Aside0.mk (H5.out.trans (hb6.mono H5.out.size)); clear hb6)
              | (go_at_call 14; refine (HSA.out _ (HB3.out.trans (H4.out.mono HB3.out.size))).mono ?_; rintro e w5 ⟨rfl, hb5⟩; have H5 := Aside0.mk (H4.out.trans (hb5.mono H4.out.size)); clear hb5)
              | (go_at_call 13; refine (HMY.out _ HB3.out).mono ?_; rintro e w4 ⟨rfl, hb4⟩; have H4 := Aside0.mk hb4; clear hb4))
            all_goals
              go_ret
              exact ⟨congrArg (fun b => Ending.returned (Value.bool b)) (by unfold minI; rw [beq_iff_eq]; split <;> omega), HB3.out.trans (H7.out.mono HB3.out.size)⟩
          · have hq0 : q = 0 := by
              rw [← HQ.out]
              exact cnt_none fun s h _ => by rw [hs s] at h; cases h
            subst hq0
            clear hs
            go_wp2_with (first
              | (go_at_call 16; refine (HCC.out _ (HB3.out.trans (H5.out.mono HB3.out.size))).mono ?_; rintro e w7 ⟨rfl, hb7⟩; have H7 := Aside0.mk (H5.out.trans (hb7.mono H5.out.size)); clear hb7)
              | (go_at_call 14; refine (HSA.out _ (HB3.out.trans (H4.out.mono HB3.out.size))).mono ?_; rintro e w5 ⟨rfl, hb5⟩; have H5 := Aside0.mk (H4.out.trans (hb5.mono H4.out.size)); clear hb5)
              | (go_at_call 13; refine (HMY.out _ HB3.out).mono ?_; rintro e w4 ⟨rfl, hb4⟩; have H4 := Aside0.mk hb4; clear hb4))
            all_goals
              go_ret
              exact ⟨congrArg (fun b => Ending.returned (Value.bool b)) (by unfold minI; rw [beq_iff_eq]; split <;> omega), HB3.out.trans (H7.out.mono HB3.out.size)⟩
          · have hp : (2 : Nat) ^ N ≤ 2 ^ 12 := Nat.pow_le_pow_right (by decide) hN
            have hnF : nF ≠ 0 := fun e => hz (List.eq_nil_of_length_eq_zero (by rw [HNF.out]; exact e))
            have e2 : ((nF : Int) == 0) = false := beq_eq_false_iff_ne.mpr (by omega)
            have hpp : 0 < (2 : Nat) ^ N := Nat.pow_pos (by decide)
            have e3 : IntKind.u64.wrap (N : Int) = (N : Int) := u64_nat (by omega)
            obtain ⟨P, hP⟩ : ∃ P : Nat, 2 ^ N = P := ⟨_, rfl⟩
            have e4 : (2 : Int) ^ N = (P : Int) := by rw [← hP]; push_cast; rfl
            unfold A1 at hy
            rw [hP] at hp hpp hy
            have e5 : IntKind.i64.wrap (P : Int) = (P : Int) := IntWalk.i64_in _ (by omega)
            have e6 : decide ((P : Int) ≤ budget) = false := decide_eq_false (by omega)
            have e7 : (N : Int) ≤ 64 := by omega
            have e8 : (0 : Int) ≤ (N : Int) := by omega
            clear hP hx hy hz hnF
            go_wp2_with (first
              | (go_at_call 16; refine (HCC.out _ (HB3.out.trans (H5.out.mono HB3.out.size))).mono ?_; rintro e w7 ⟨rfl, hb7⟩; have H7 := Aside0.mk (H5.out.trans (hb7.mono H5.out.size)); clear hb7)
              | (go_at_call 14; refine (HSA.out _ (HB3.out.trans (H4.out.mono HB3.out.size))).mono ?_; rintro e w5 ⟨rfl, hb5⟩; have H5 := Aside0.mk (H4.out.trans (hb5.mono H4.out.size)); clear hb5)
              | (go_at_call 13; refine (HMY.out _ HB3.out).mono ?_; rintro e w4 ⟨rfl, hb4⟩; have H4 := Aside0.mk hb4; clear hb4))
            all_goals
              go_ret
              exact ⟨congrArg (fun b => Ending.returned (Value.bool b)) (by unfold minI; rw [beq_iff_eq]; split <;> omega), HB3.out.trans (H7.out.mono HB3.out.size)⟩
end Go.Proofs.Ytnhpfdnhnocgjaa.S
/- What comes in at the laws of layer 6. -/
namespace Go.Proofs.Ytnhpfdnhnocgjaa.S
open Go.RowKit Go.Proofs.Ytnhpfdnhnocgjaa.D Go.Proofs.Ytnhpfdnhnocgjaa.Lem Go.Proofs.YtnhpfdnhnocgjaaW.PrintWords
theorem In.of {W : World} {A : Option Addr} {c : Nat} {F : List (List Int)} (hr : Kd.C (Kd.slice 3 (Kd.int .i64)) W A F.length F) (hc : F.length ≤ c) (hf : F.length * 24 ≤ 140737488351232 ∧ F.length ≤ 9223372036854775807 ∧ ∀ y ∈ F, (y.length * 8 ≤ 140737488351232 ∧ y.length ≤ 9223372036854775807 ∧ ∀ v ∈ y, (Lit.int .i64 v).wf = true)): In W A c F :=
  ⟨hr, hc, ⟨hf.2.1, fun d hd => ⟨(hf.2.2 d hd).2.1, fun v hv => by have := wf64 ((hf.2.2 d hd).2.2 v hv); unfold W64; exact this⟩⟩, by omega, fun d hd => by have := (hf.2.2 d hd).1; omega⟩
end Go.Proofs.Ytnhpfdnhnocgjaa.S
