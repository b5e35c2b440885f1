/- DpllUnits: walked by hand. -/
import Derived.Test.YtnhpfdnhnocgjaaUnitH
namespace Go.Proofs.Ytnhpfdnhnocgjaa.S
open Go.RowKit Go.Proofs.Ytnhpfdnhnocgjaa.D Go.Proofs.Ytnhpfdnhnocgjaa.Lem Go.Proofs.YtnhpfdnhnocgjaaW.PrintWords Go.Proofs.YtnhpfdnhnocgjaaW.PrintLast Go.Proofs.YtnhpfdnhnocgjaaW.PrintMore
set_option linter.unusedVariables false
set_option linter.unusedSimpArgs false
attribute [local go_sem] max2_int min2_int max_two min_two
theorem R_slv {α : Type} {d : Kd α} {e base : Nat} {w : World} {ok : Nat → Prop} {v : Value} {xs : List α} (h : d.R e w base ok v xs) : ∃ A n c, v = .slice A n c := by
  obtain ⟨A, c, e⟩ := Kd.R_slice h
  exact ⟨_, _, _, e⟩
theorem zero_row (w : World) (K : Nat) (hK : K ≤ 1000) : (Kd.int .i64).C (w.alloc (.cells (madeCells #[.int .i64 0] K) 3)) (some ⟨w.heap.size, 0, none⟩) K (List.replicate K 0) := by
  have hb := blk_new w (.cells (madeCells #[.int .i64 0] K) 3)
  rw [made_rep] at hb ⊢
  have := C_ints (List.replicate K (0 : Int)) (by rw [List.length_replicate]; omega) (by rw [List.map_replicate]; exact hb)
  rwa [List.length_replicate] at this
set_option maxRecDepth 100000 in
set_option maxHeartbeats 1000000 in
theorem units8 {w : World} {A : Option Addr} {c : Nat} {F : List (List Int)} (h : In w A c F) (n : Int) (hn0 : 0 ≤ n) (hn1 : n ≤ 255) :
    Calls Try.prog 8 #[.int .u8 n, .slice A F.length c] w fun e w' => e = .returned (.bool true) ∧ Below w.heap.size w w' := by
  have HI := Aside0.mk h
  obtain ⟨sb, hsb⟩ := small11 h 500
  have HSM := Aside0.mk hsb
  have c1 : IntKind.i64.wrap n = n := IntWalk.i64_in _ (by omega)
  obtain ⟨K, hK⟩ : ∃ K : Nat, 1 + n % 12 = (K : Int) := ⟨(1 + n % 12).toNat, by omega⟩
  have HKK : Aside0 (1 ≤ K ∧ K ≤ 12) := ⟨by omega⟩
  have HMY := Aside0.mk (fun W (hW : Below w.heap.size w W) => rmay13 (h.below hW) (K : Int))
  obtain ⟨b, hb⟩ : ∃ b, mayB (K : Int) F = b := ⟨_, rfl⟩
  have HM := Aside0.mk hb
  rw [hb] at HMY
  obtain ⟨nF, hnF⟩ : ∃ m, F.length = m := ⟨_, rfl⟩
  have HNF := Aside0.mk hnF
  rw [hnF] at HSM HMY ⊢
  clear h hsb hb hnF
  cases sb with
  | false =>
    go_enter Try.func8, Try.ntmps8
    go_wp2_with (first
      | (go_at_call 11; refine (HSM.out _ HB1.out).mono ?_; rintro e w2 ⟨rfl, hb2⟩; have HB2 := Aside0.mk (HB1.out.trans (hb2.mono HB1.out.size)); clear hb2)
      | (go_at_call 10; refine (awake10 _).mono ?_; rintro e w1 ⟨rfl, hb1⟩; have HB1 := Aside0.mk hb1; clear hb1))
    go_ret
    exact ⟨rfl, HB2.out⟩
  | true =>
    cases b with
    | false =>
      go_enter Try.func8, Try.ntmps8
      go_wp2_with (first
        | (go_at_call 13; refine (HMY.out _ HB2.out).mono ?_; rintro e w3 ⟨rfl, hb3⟩; have HB3 := Aside0.mk (HB2.out.trans (hb3.mono HB2.out.size)); clear hb3)
        | (go_at_call 11; refine (HSM.out _ HB1.out).mono ?_; rintro e w2 ⟨rfl, hb2⟩; have HB2 := Aside0.mk (HB1.out.trans (hb2.mono HB1.out.size)); clear hb2)
        | (go_at_call 10; refine (awake10 _).mono ?_; rintro e w1 ⟨rfl, hb1⟩; have HB1 := Aside0.mk hb1; clear hb1))
      go_ret
      exact ⟨rfl, HB3.out⟩
    | true =>
      obtain ⟨m0, m1, m2⟩ := (mayB_iff _ F).1 HM.out
      rw [Int.toNat_natCast] at m2
      have hmk : ∀ W : World, (Instr.makeSlice 37 (.int .i64 (K : Int)) (.int .i64 (K : Int))).run Try.prog W = .ok (.slice (some ⟨W.heap.size, 0, none⟩) K K) (W.alloc (.cells (madeCells #[.int .i64 0] K) 3)) := fun W => run_make_row' (P := Try.prog) 37 3 (.int .i64 0) 8 Try.underlying37 P.info3 rfl .i64 .i64 K (by have := HKK.out; omega) (by have := HKK.out; omega) W
      have HU : Aside0 (∀ W, Below w.heap.size w W → Calls Try.prog 17 #[.int .i64 (K : Int), .slice A nF c, .slice (some ⟨W.heap.size, 0, none⟩) K K] (W.alloc (.cells (madeCells #[.int .i64 0] K) 3)) fun e w' => ∃ v u bad, e = .returned (.tuple #[v, .bool bad]) ∧ Kd.R (Kd.int .i64) 3 w' w.heap.size (fun _ => True) v u ∧ Below w.heap.size w w' ∧ Un.UnitR K F u bad) := ⟨fun W hW => by
        have h1 := below_alloc hW (.cells (madeCells #[.int .i64 0] K) 3)
        have := Un.unit17 (HI.out.below h1) (K := K) (by have := HKK.out; omega) m2 (zero_row W K (by have := HKK.out; omega)) (Nat.le_refl _)
        rw [HNF.out] at this
        refine this.mono ?_
        rintro e w' ⟨v, u, bad, he, hR, hb, hu⟩
        exact ⟨v, u, bad, he, Kd.R_lower hR h1.size, h1.trans (hb.mono h1.size), hu⟩⟩
      have HS1 : Aside0 (∀ W, Below w.heap.size w W → Calls Try.prog 12 #[.int .i64 (K : Int), .slice A nF c, .int .i64 1099511627776] W (SolveP W (K : Int) F 1099511627776)) := ⟨fun W hW => by
        have := solve12 (HI.out.below hW) (K : Int) 1099511627776
        rwa [HNF.out] at this⟩
      have HMF : mayB (K : Int) F = true := HM.out
      have HR1 : Aside0 (∀ r a code, SolveR (K : Int) F 1099511627776 r a code → code = 0 ∧ ((r = 1 ∧ a.length = K ∧ satF (bitsOf a) F = true) ∨ (r = 2 ∧ a = []))) := ⟨fun r a code h => by
        obtain ⟨h0, h | h⟩ := h.full HMF
        · exact ⟨h0, .inl h⟩
        · exact ⟨h0, .inr ⟨h.1, h.2.1⟩⟩⟩
      have hK0 : (0 : Int) < (K : Int) := by have := HKK.out; omega
      clear m0 m1 m2 HMF HM
      go_enter Try.func8, Try.ntmps8
      go_upto_region 6 with (first
        | (go_at_call 13; refine (HMY.out _ HB2.out).mono ?_; rintro e w3 ⟨rfl, hb3⟩; have HB3 := Aside0.mk (HB2.out.trans (hb3.mono HB2.out.size)); clear hb3)
        | (go_at_call 11; refine (HSM.out _ HB1.out).mono ?_; rintro e w2 ⟨rfl, hb2⟩; have HB2 := Aside0.mk (HB1.out.trans (hb2.mono HB1.out.size)); clear hb2)
        | (go_at_call 10; refine (awake10 _).mono ?_; rintro e w1 ⟨rfl, hb1⟩; have HB1 := Aside0.mk hb1; clear hb1))
      clear HSM HMY
      go_upto_region 7 with (go_at_call 17; refine (HU.out _ HB3.out).mono ?_; rintro e w4 ⟨v, u, bad, rfl, hR, hb4, hu⟩; have HRU := Aside0.mk hR; have HB4 := Aside0.mk hb4; obtain ⟨Au, mu, cu, rfl⟩ := R_slv hR; have HUU := Aside0.mk hu; clear hb4 hR hu)
      go_upto_region 8 with (go_at_call 12; refine (HS1.out _ HB4.out).mono ?_; rintro e w5 ⟨r, v, a, code, rfl, hR, hb5, hS⟩; have HRA := Aside0.mk hR; have HB5 := Aside0.mk (HB4.out.trans (hb5.mono HB4.out.size)); have HRV := Aside0.mk (Kd.R_below HRU.out hb5); obtain ⟨Av, mv, cv, rfl⟩ := R_slv hR; have HSS := Aside0.mk (HR1.out _ _ _ hS); clear hb5 hS hR)
      clear HS1 HU HR1 hmk
      obtain ⟨rfl, ⟨rfl, hl, hs⟩ | ⟨rfl, rfl⟩⟩ := HSS.out
      · obtain ⟨rfl, hbad⟩ | ⟨rfl, hul, hur, hua⟩ := HUU.out
        · rw [hbad] at hs
          cases hs
        · have HAG := Aside0.mk (And.intro hur (hua a hs))
          have hpu : 0 < u.length := by rw [hul]; have := HKK.out; omega
          have hpa : 0 < a.length := by rw [hl]; have := HKK.out; omega
          obtain ⟨gu, capu, eu, _, _, _⟩ := Kd.R_form HRV.out hpu
          injection eu with eu1 eu2 eu3
          subst eu1 eu2 eu3
          obtain ⟨ga, capa, ea, _, _, _⟩ := Kd.R_form HRA.out hpa
          injection ea with ea1 ea2 ea3
          subst ea1 ea2 ea3
          have HCU : Aside0 (∀ i : Nat, i < K → w5.cell? ⟨gu, i, none⟩ = some (.int .i64 (u.getD i 0))) := ⟨fun i hi => by
            have := (Kd.R_celln 0 HRV.out (i : Int) (by omega) (by rw [hul]; omega)).1
            rw [Int.toNat_natCast] at this
            rw [this]
            unfold rdOf
            rw [Int.toNat_natCast]⟩
          have HCA : Aside0 (∀ i : Nat, i < K → w5.cell? ⟨ga, i, none⟩ = some (.bool (a.getD i false))) := ⟨fun i hi => by
            have := (Kd.R_celln false HRA.out (i : Int) (by omega) (by rw [hl]; omega)).1
            rw [Int.toNat_natCast] at this
            rw [this]
            unfold rdOf
            rw [Int.toNat_natCast]⟩
          rw [hul, hl]
          have H0 : Aside0 (Below w5.heap.size w5 w5) := ⟨Below.refl _ _⟩
          clear HRU HRV HRA HUU HSS hs hua hur hul hl hpu hpa
          go_wp2_with fail
          go_loopg [11] K (fun kq v11 wr => ∃ i : Nat, v11 = .int .i64 (i : Int) ∧ i + kq = K ∧ Aside0 (Below w5.heap.size w5 wr))
          case atStart => exact ⟨0, rfl, by omega, H0⟩
          case round =>
            clear H0
            obtain ⟨i, rfl, hi, HBR⟩ := hrel
            by_cases hlt : (i : Int) < (K : Int)
            · obtain ⟨kq, rfl⟩ : ∃ k, gk = k + 1 := ⟨gk - 1, by omega⟩
              have hw : IntKind.i64.wrap ((i : Int) + 1) = ((i + 1 : Nat) : Int) := by have := HKK.out; rw [IntWalk.i64_in _ (by omega)]; rfl
              have y1 := cell_later HBR.out (HCU.out i (by omega))
              have y2 := cell_later HBR.out (HCA.out i (by omega))
              have hi0 : (0 : Int) ≤ (i : Int) := by omega
              obtain ⟨ui, hui⟩ : ∃ x, u.getD i 0 = x := ⟨_, rfl⟩
              obtain ⟨bi, hbi⟩ : ∃ x, a.getD i false = x := ⟨_, rfl⟩
              have hA := HAG.out.2 i
              have hR := HAG.out.1 i
              rw [hui] at y1 hA hR
              rw [hbi] at y2 hA
              have hcase : ui = 0 ∨ (ui = 1 ∧ bi = true) ∨ (ui = -1 ∧ bi = false) := by
                by_cases h0 : ui = 0
                · exact .inl h0
                · have := hA h0
                  by_cases h1 : ui = 1
                  · subst h1; exact .inr (.inl ⟨rfl, this.symm⟩)
                  · have h2 : ui = -1 := by omega
                    subst h2; exact .inr (.inr ⟨rfl, this.symm⟩)
              clear hui hbi hA hR
              rcases hcase with rfl | ⟨rfl, rfl⟩ | ⟨rfl, rfl⟩
              · go_wp2_with fail
                go_quiet (fail)
                go_wp2_with fail
                go_roundg kq
                case measure => omega
                case rel => exact ⟨i + 1, rfl, by omega, ⟨pw_below_drewN HBR.out _⟩⟩
              · go_wp2_with fail
                go_quiet (fail)
                go_wp2_with fail
                go_roundg kq
                case measure => omega
                case rel => exact ⟨i + 1, rfl, by omega, ⟨pw_below_drewN HBR.out _⟩⟩
              · go_wp2_with fail
                go_quiet (fail)
                go_wp2_with fail
                go_roundg kq
                case measure => omega
                case rel => exact ⟨i + 1, rfl, by omega, ⟨pw_below_drewN HBR.out _⟩⟩
            · obtain rfl : i = K := by omega
              go_wp2_with fail
              go_ret
              exact ⟨rfl, HB5.out.trans (HBR.out.mono HB5.out.size)⟩
      · clear HSS HRU HRV HRA
        cases bad with
        | true =>
          clear HUU
          go_wp2_with fail
          go_loopg [11] 0 (fun kq v11 wr => v11 = .int .i64 0 ∧ Aside0 (Below w5.heap.size w5 wr))
          case atStart => exact ⟨rfl, ⟨Below.refl _ _⟩⟩
          case round =>
            obtain ⟨rfl, HBR⟩ := hrel
            go_wp2_with fail
            go_ret
            exact ⟨rfl, HB5.out.trans (HBR.out.mono HB5.out.size)⟩
        | false =>
          clear HUU
          go_wp2_with fail
          go_loopg [11] 0 (fun kq v11 wr => v11 = .int .i64 0 ∧ Aside0 (Below w5.heap.size w5 wr))
          case atStart => exact ⟨rfl, ⟨Below.refl _ _⟩⟩
          case round =>
            obtain ⟨rfl, HBR⟩ := hrel
            go_wp2_with fail
            go_ret
            exact ⟨rfl, HB5.out.trans (HBR.out.mono HB5.out.size)⟩
end Go.Proofs.Ytnhpfdnhnocgjaa.S
