/- DpllMore: walked by hand. -/
import Derived.Test.YtnhpfdnhnocgjaaHeads
namespace Go.Proofs.Ytnhpfdnhnocgjaa.S
open Go.RowKit Go.Proofs.Ytnhpfdnhnocgjaa.D Go.Proofs.Ytnhpfdnhnocgjaa.Lem Go.Proofs.YtnhpfdnhnocgjaaW.PrintWords Go.Proofs.YtnhpfdnhnocgjaaW.PrintLast Go.Proofs.YtnhpfdnhnocgjaaW.PrintMore
set_option linter.unusedVariables false
set_option linter.unusedSimpArgs false
attribute [local go_sem] max2_int min2_int max_two min_two
/-- A row that is being written. -/
structure RowM (w : World) (v : Value) (L : List Int) (W : World) : Prop where
  below : Below w.heap.size w W
  L : (Kd.int .i64).R 3 W w.heap.size (fun _ => True) v L
set_option maxRecDepth 100000 in
set_option maxHeartbeats 1000000 in
theorem more7 {w : World} {A : Option Addr} {c : Nat} {F : List (List Int)} (h : In w A c F) (n : Int) (hn0 : 0 ≤ n) (hn1 : n ≤ 255) {A2 : Option Addr} {c2 : Nat} {cl : List Int} (hcl : (Kd.int .i64).C w A2 cl.length cl) (hcc : cl.length ≤ c2) (hcw : ∀ v ∈ cl, W64 v) (hll : cl.length < 17592186044416) (hsm : F.length < 5864062014804) :
    Calls Try.prog 7 #[.int .u8 n, .slice A F.length c, .slice A2 cl.length c2] w fun e w' => e = .returned (.bool true) ∧ Below w.heap.size w w' := by
  have HI := Aside0.mk h
  obtain ⟨sb, hsb⟩ := small11 h 400
  have HSM := Aside0.mk hsb
  have c1 : IntKind.i64.wrap n = n := IntWalk.i64_in _ (by omega)
  obtain ⟨K, hK⟩ : ∃ K : Nat, 1 + n % 10 = (K : Int) := ⟨(1 + n % 10).toNat, by omega⟩
  have HKK : Aside0 (1 ≤ K ∧ K ≤ 10) := ⟨by omega⟩
  have HMY := Aside0.mk (fun W (hW : Below w.heap.size w W) => rmay13 (h.below hW) (K : Int))
  have HMC : Aside0 (∀ W, Below w.heap.size w W → Calls Try.prog 13 #[.int .i64 (K : Int), .slice (some ⟨W.heap.size, 0, none⟩) 1 1] (W.alloc (.cells #[.slice A2 cl.length c2] 37)) fun e w' => e = .returned (.bool (mayB (K : Int) [cl])) ∧ Below w.heap.size w w') := ⟨fun W hW => by
    refine (rmay13 (in_one (Kd.C_below hcl hW) hcc hcw hll) (K : Int)).mono ?_
    rintro e w' ⟨he, hb⟩
    have h0 := below_alloc hW (.cells #[.slice A2 cl.length c2] 37)
    exact ⟨he, h0.trans (hb.mono h0.size)⟩⟩
  obtain ⟨b, hb⟩ : ∃ b, mayB (K : Int) F = b := ⟨_, rfl⟩
  have HM := Aside0.mk hb
  rw [hb] at HMY
  obtain ⟨b2, hb2⟩ : ∃ b, mayB (K : Int) [cl] = b := ⟨_, rfl⟩
  have HM2 := Aside0.mk hb2
  rw [hb2] at HMC
  obtain ⟨nF, hnF⟩ : ∃ m, F.length = m := ⟨_, rfl⟩
  have HNF := Aside0.mk hnF
  have HNL : Aside0 (nF ≤ 5864062014804) := ⟨by rw [← hnF]; exact h.len⟩
  have HNS : Aside0 (nF < 5864062014804) := ⟨by rw [← hnF]; exact hsm⟩
  obtain ⟨nL, hnL⟩ : ∃ m, cl.length = m := ⟨_, rfl⟩
  have HNC := Aside0.mk hnL
  have HCL := Aside0.mk (And.intro hcl (And.intro hcc hcw))
  rw [hnF] at HSM HMY ⊢
  rw [hnL] at HMC ⊢
  clear h hsb hb hb2 hnF hcl hcc hcw hnL hll hsm
  cases sb with
  | false =>
    go_enter Try.func7, Try.ntmps7
    go_wp2_with (first
      | (go_at_call 11; refine (HSM.out _ HB1.out).mono ?_; rintro e w2 ⟨rfl, hb2⟩; have HB2 := Aside0.mk (HB1.out.trans (hb2.mono HB1.out.size)); clear hb2)
      | (go_at_call 10; refine (awake10 _).mono ?_; rintro e w1 ⟨rfl, hb1⟩; have HB1 := Aside0.mk hb1; clear hb1))
    go_ret
    exact ⟨rfl, HB2.out⟩
  | true =>
    by_cases c40 : 40 < nL
    · have d40 : decide (40 < (nL : Int)) = true := decide_eq_true (by omega)
      go_enter Try.func7, Try.ntmps7
      go_wp2_with (first
        | (go_at_call 11; refine (HSM.out _ HB1.out).mono ?_; rintro e w2 ⟨rfl, hb2⟩; have HB2 := Aside0.mk (HB1.out.trans (hb2.mono HB1.out.size)); clear hb2)
        | (go_at_call 10; refine (awake10 _).mono ?_; rintro e w1 ⟨rfl, hb1⟩; have HB1 := Aside0.mk hb1; clear hb1))
      go_ret
      exact ⟨rfl, HB2.out⟩
    · have d40 : decide (40 < (nL : Int)) = false := decide_eq_false (by omega)
      cases b with
      | false =>
        go_enter Try.func7, Try.ntmps7
        go_wp2_with (first
          | (go_at_call 13; refine (HMY.out _ HB2.out).mono ?_; rintro e w3 ⟨rfl, hb3⟩; have HB3 := Aside0.mk (HB2.out.trans (hb3.mono HB2.out.size)); clear hb3)
          | (go_at_call 11; refine (HSM.out _ HB1.out).mono ?_; rintro e w2 ⟨rfl, hb2⟩; have HB2 := Aside0.mk (HB1.out.trans (hb2.mono HB1.out.size)); clear hb2)
          | (go_at_call 10; refine (awake10 _).mono ?_; rintro e w1 ⟨rfl, hb1⟩; have HB1 := Aside0.mk hb1; clear hb1))
        go_ret
        exact ⟨rfl, HB3.out⟩
      | true =>
        cases b2 with
        | false =>
          go_enter Try.func7, Try.ntmps7
          go_upto_region 4 with (go_at_call 10; refine (awake10 _).mono ?_; rintro e w1 ⟨rfl, hb1⟩; have HB1 := Aside0.mk hb1; clear hb1)
          go_wp2_with (first
            | (go_at_call 13; refine (HMC.out _ HB3.out).mono ?_; rintro e w4 ⟨rfl, hb4⟩; have HB4 := Aside0.mk hb4; clear hb4)
            | (go_at_call 13; refine (HMY.out _ HB2.out).mono ?_; rintro e w3 ⟨rfl, hb3⟩; have HB3 := Aside0.mk (HB2.out.trans (hb3.mono HB2.out.size)); clear hb3)
            | (go_at_call 11; refine (HSM.out _ HB1.out).mono ?_; rintro e w2 ⟨rfl, hb2⟩; have HB2 := Aside0.mk (HB1.out.trans (hb2.mono HB1.out.size)); clear hb2))
          go_ret
          exact ⟨rfl, HB4.out⟩
        | true =>
          obtain ⟨m0, m1, m2⟩ := (mayB_iff _ F).1 HM.out
          obtain ⟨_, _, m3⟩ := (mayB_iff _ [cl]).1 HM2.out
          rw [Int.toNat_natCast] at m2 m3
          have m3 : ∀ x ∈ cl, okL K x := m3 cl (by simp)
          have hFc : ∀ d ∈ F ++ [cl], ∀ x ∈ d, okL K x := ok_snoc m2 m3
          obtain ⟨hsF, hkF, hallF⟩ := heads HI.out.row
          rw [HNF.out] at hkF
          have HkF := Aside0.mk hkF
          have HAF := Aside0.mk hallF
          have HLF : Aside0 (hsF.length = nF) := ⟨hallF.1.trans HNF.out⟩
          have hall2 : All w (hsF ++ [(A2, nL, c2)]) (F ++ [cl]) := all_append hallF (all_one ⟨HNC.out.symm, HCL.out.2.1, HCL.out.1⟩)
          have hr2 : ∀ d ∈ F ++ [cl], d.length < 17592186044416 := fun d hd => by
            rcases List.mem_append.1 hd with hd | hd
            · exact HI.out.rows d hd
            · obtain rfl := List.mem_singleton.1 hd
              rw [HNC.out]; omega
          have hl2 : (F ++ [cl]).length ≤ 5864062014804 := by have := HNL.out; have := HNS.out; rw [List.length_append, List.length_singleton, HNF.out]; omega
          obtain ⟨q, hq⟩ : ∃ q, cnt K F [] = q := ⟨_, rfl⟩
          obtain ⟨q2, hq2⟩ : ∃ q, cnt K (F ++ [cl]) [] = q := ⟨_, rfl⟩
          have hle : q2 ≤ q := by rw [← hq, ← hq2]; exact cnt_more K F cl []
          obtain ⟨X, hX⟩ : ∃ X : Int, (q : Int) = X := ⟨_, rfl⟩
          obtain ⟨Y, hY⟩ : ∃ Y : Int, (q2 : Int) = Y := ⟨_, rfl⟩
          have HC1 : Aside0 (∀ W, Below w.heap.size w W → Calls Try.prog 16 #[.int .i64 (K : Int), .slice A nF c, .int .i64 1048576] W fun e w' => e = .returned (.tuple #[.int .i64 X, .int .i64 0]) ∧ Below W.heap.size W w') := ⟨fun W hW => by
            have := count_few (HI.out.below hW) (K := K) (by have := HKK.out; omega) m2
            rwa [HNF.out, hq, hX] at this⟩
          have HC2 : Aside0 (∀ W A8 m8 c8, kh.R 37 W w.heap.size (fun _ => True) (.slice A8 m8 c8) (hsF ++ [(A2, nL, c2)]) → Below w.heap.size w W → Calls Try.prog 16 #[.int .i64 (K : Int), .slice A8 m8 c8, .int .i64 1048576] W fun e w' => e = .returned (.tuple #[.int .i64 Y, .int .i64 0]) ∧ Below W.heap.size W w') := ⟨fun W A8 m8 c8 hR hW => by
            obtain ⟨rfl, hin⟩ := In.heads hW hR hall2 (by have := HKK.out; omega) hFc hl2 hr2
            have := count_few hin (K := K) (by have := HKK.out; omega) hFc
            rwa [hq2, hY] at this⟩
          have HS1 : Aside0 (∀ W, Below w.heap.size w W → Calls Try.prog 12 #[.int .i64 (K : Int), .slice A nF c, .int .i64 1099511627776] W (SolveP W (K : Int) F 1099511627776)) := ⟨fun W hW => by
            have := solve12 (HI.out.below hW) (K : Int) 1099511627776
            rwa [HNF.out] at this⟩
          have HMF : mayB (K : Int) F = true := HM.out
          have HR1 : Aside0 (∀ r a code, SolveR (K : Int) F 1099511627776 r a code → code = 0 ∧ ((r = 1 ∧ a.length = K ∧ satF (bitsOf a) F = true) ∨ (r = 2 ∧ (X == 0) = true))) := ⟨fun r a code h => by
            obtain ⟨h0, h | h⟩ := h.full HMF
            · exact ⟨h0, .inl h⟩
            · refine ⟨h0, .inr ⟨h.1, ?_⟩⟩
              have : cnt K F [] = 0 := cnt_none fun s hs _ => (by rw [h.2.2 s] at hs; cases hs)
              rw [← hX, ← hq, this]; rfl⟩
          have dXY : decide (X < Y) = false := decide_eq_false (by omega)
          have HF := Aside0.mk (And.intro m2 (And.intro hq hX))
          clear m0 m1 m2 m3 hFc hkF hallF hall2 hr2 hl2 hq hq2 hle hX hY HMF HM HM2
          go_enter Try.func7, Try.ntmps7
          go_upto_region 4 with (go_at_call 10; refine (awake10 _).mono ?_; rintro e w1 ⟨rfl, hb1⟩; have HB1 := Aside0.mk hb1; clear hb1)
          go_upto_region 6 with (first
            | (go_at_call 13; refine (HMC.out _ HB3.out).mono ?_; rintro e w4 ⟨rfl, hb4⟩; have HB4 := Aside0.mk hb4; clear hb4)
            | (go_at_call 13; refine (HMY.out _ HB2.out).mono ?_; rintro e w3 ⟨rfl, hb3⟩; have HB3 := Aside0.mk (HB2.out.trans (hb3.mono HB2.out.size)); clear hb3)
            | (go_at_call 11; refine (HSM.out _ HB1.out).mono ?_; rintro e w2 ⟨rfl, hb2⟩; have HB2 := Aside0.mk (HB1.out.trans (hb2.mono HB1.out.size)); clear hb2))
          clear HMC HMY HSM HB1 HB2 HB3
          go_upto_region 7 with (go_at_call 16; refine (HC1.out _ HB4.out).mono ?_; rintro e w5 ⟨rfl, hb5⟩; have HB5 := Aside0.mk (HB4.out.trans (hb5.mono HB4.out.size)); clear hb5 HB4)
          go_upto_region 8 with (first
            | (go_at_call 16; refine (HC2.out _ _ _ _ hRxc hBxc).mono ?_; rintro e wxd ⟨rfl, hbxd⟩; have HBxd := Aside0.mk (hBxc.trans (hbxd.mono hBxc.size)); clear hbxd)
            | ((with_reducible refine gate_dst (N := 55) rfl ?_); refine Kd.R_lit kh (w0 := w) w.heap.size 37 ?hg (N := 55) ?hd (xs := ([] : List Hd)) (inner := []) (ok := fun _ => True) (okp := fun _ => True) ?hr ?hp (fun _ hk => hk) trivial HB5.out HB5.out.size (by simp) ?_; (case hd => rfl); (case hg => rfl); (case hr => first | (go_simp; done) | (go_simp; rfl)); (case hp => exact (Reps.none _ _)); intro vxa wxa hRxa hBxa _ _)
            | ((with_reducible refine gate_builtin (b := .append) (xs := #[.tmp 55, .tmp 56]) rfl ?_); at_builtin; refine Kd.R_append_rows kh (Rr := fun x cs => cs = [hv x]) (w0 := w) w.heap.size rfl (.tmp 55) (.tmp 56) 22 37 (.slice none 0 0) 24 rfl Try.underlying22 info37 rfl (by decide) (by decide) vxa [] hsF A nF c (fun _ => True) (fun _ => False) rfl rfl hRxa ?aR (fun _ _ h => h) (fun _ h => h.elim) (fun _ _ => trivial) hBxa hBxa.size ?aL ?_; (case aR => exact Kd.C_below HkF.out hBxa); (case aL => have := HNL.out; simp only [List.length_nil]; omega); intro vxb wxb hRxb hBxb _ _; rw [List.nil_append] at hRxb)
            | ((with_reducible refine gate_builtin (b := .append) (xs := #[.tmp 57, .tmp 59]) rfl ?_); at_builtin; refine Kd.R_append kh (w0 := w) w.heap.size rfl (.tmp 57) (.tmp 59) 22 37 (.slice none 0 0) 24 rfl Try.underlying22 info37 rfl (by decide) (by decide) (W := wxb) vxb hsF (A2, nL, c2) [hv (A2, nL, c2)] (fun _ => True) (fun _ => False) rfl rfl rfl (fun _ hk => hk.elim) (fun _ _ => trivial) hRxb hBxb hBxb.size ?bL ?_; (case bL => have := HNL.out; have := HLF.out; omega); intro vxc wxc hRxc hBxc _ _; obtain ⟨Ax, mx, cx, rfl⟩ := R_sl hRxc))
          go_upto_region 9 with (go_at_call 12; refine (HS1.out _ HBxd.out).mono ?_; rintro e ws ⟨r, v, a, code, rfl, hR, hbs, hS⟩; have HR := Aside0.mk hR; have HBS := Aside0.mk (HBxd.out.trans (hbs.mono HBxd.out.size)); obtain ⟨Av, mv, cv, rfl⟩ := R_sl hR; have HSS := Aside0.mk (HR1.out _ _ _ hS); clear hbs hS hR)
          obtain ⟨rfl, ⟨rfl, hl, hs⟩ | ⟨rfl, hX0⟩⟩ := HSS.out
          · skip
            have HNB := Aside0.mk (nots_forbid HF.out.1 hs)
            have hpos : 0 < a.length := by rw [hl]; have := HKK.out; omega
            obtain ⟨g, cap, eg, _, _, _⟩ := Kd.R_form HR.out hpos
            injection eg with eg1 eg2 eg3
            subst eg1 eg2 eg3
            have HRR := HR.out
            rw [hl] at HRR ⊢
            have HBV : Aside0 (∀ i : Nat, i < K → ws.cell? ⟨g, i, none⟩ = some (.bool (a.getD i false))) := ⟨fun i hi => by
              have := (Kd.R_celln false HRR (i : Int) (by omega) (by omega)).1
              rw [Int.toNat_natCast] at this
              rw [this]
              unfold rdOf
              rw [Int.toNat_natCast]⟩
            have H0 : Aside0 (RowM ws (.slice none 0 0) (nots a 0) ws) := ⟨⟨Below.refl _ _, Kd.R_nil _ _ _ _ _⟩⟩
            clear HRR HR HSS hs hl HS1 HC2 HR1 HCL
            go_wp2_with fail
            go_loopg [15, 16] K (fun kq v15 v16 wr => ∃ (u15 : Value) (i : Nat), u15 = v15 ∧ v16 = .int .i64 (i : Int) ∧ i + kq = K ∧ Aside0 (RowM ws u15 (nots a i) wr))
            case atStart => exact ⟨_, 0, rfl, rfl, by omega, H0⟩
            case round =>
              clear H0
              obtain ⟨v15, i, rfl, rfl, hi, HM⟩ := hrel
              by_cases hlt : (i : Int) < (K : Int)
              · obtain ⟨kq, rfl⟩ : ∃ k, gk = k + 1 := ⟨gk - 1, by omega⟩
                obtain ⟨V, hV⟩ : ∃ V : Int, (i : Int) + 1 = V := ⟨_, rfl⟩
                have hw : IntKind.i64.wrap ((i : Int) + 1) = V := by have := HKK.out; rw [hV]; exact IntWalk.i64_in _ (by omega)
                have hw1 : IntKind.i64.wrap (-V) = -V := by have := HKK.out; exact IntWalk.i64_in _ (by omega)
                have hw2 : wrap64 (-V) = -V := by have := HKK.out; unfold wrap64; omega
                have y1 := cell_later HM.out.below (HBV.out i (by omega))
                have hi0 : (0 : Int) ≤ (i : Int) := by omega
                obtain ⟨b, hb⟩ : ∃ b, a.getD i false = b := ⟨_, rfl⟩
                rw [hb] at y1
                have HVN : Aside0 (V = ((i + 1 : Nat) : Int) ∧ nots a (i + 1) = nots a i ++ [if b = true then -V else V]) := ⟨by omega, by rw [nots_succ, hb, hV]⟩
                clear hb hV
                cases b with
                | false =>
                  go_wp2_with (at_builtin; refine Kd.R_append (Kd.int .i64) (w0 := ws) ws.heap.size rfl (.tmp 103) (.tmp 105) 37 3 (.int .i64 0) 8 rfl Try.underlying37 P.info3 rfl (by decide) (by decide) v15 (nots a i) V [.int .i64 V] (fun _ => True) (fun _ => False) rfl rfl rfl (fun _ hk => hk.elim) (fun _ _ => trivial) HM.out.L HM.out.below HM.out.below.size ?aL ?_; (case aL => have := HKK.out; rw [nots_len]; omega); intro v1 w1 T1 B1 G1 _; have HM2 : Aside0 (RowM ws v1 (nots a (i + 1)) w1) := ⟨⟨B1, by rw [HVN.out.2]; exact T1⟩⟩; clear T1 B1 G1)
                  go_roundg kq
                  case measure => omega
                  case rel => exact ⟨v1, i + 1, rfl, congrArg (Value.int .i64) HVN.out.1, by omega, HM2⟩
                | true =>
                  go_wp2_with (at_builtin; refine Kd.R_append (Kd.int .i64) (w0 := ws) ws.heap.size rfl (.tmp 103) (.tmp 105) 37 3 (.int .i64 0) 8 rfl Try.underlying37 P.info3 rfl (by decide) (by decide) v15 (nots a i) (-V) [.int .i64 (-V)] (fun _ => True) (fun _ => False) rfl rfl rfl (fun _ hk => hk.elim) (fun _ _ => trivial) HM.out.L HM.out.below HM.out.below.size ?aL ?_; (case aL => have := HKK.out; rw [nots_len]; omega); intro v1 w1 T1 B1 G1 _; have HM2 : Aside0 (RowM ws v1 (nots a (i + 1)) w1) := ⟨⟨B1, by rw [HVN.out.2]; exact T1⟩⟩; clear T1 B1 G1)
                  go_roundg kq
                  case measure => omega
                  case rel => exact ⟨v1, i + 1, rfl, congrArg (Value.int .i64) HVN.out.1, by omega, HM2⟩
              · obtain rfl : i = K := by omega
                obtain ⟨A9, m9, c9, rfl⟩ := R_sl HM.out.L
                obtain ⟨e1, e2, e3⟩ := Kd.R_reads' HM.out.L
                have hbw : Below w.heap.size w wr := HBS.out.trans (HM.out.below.mono HBS.out.size)
                have HBW := Aside0.mk hbw
                have HAW : Aside0 (All wr (hsF ++ [(A9, m9, c9)]) (F ++ [nots a i])) := ⟨all_append (all_below HAF.out hbw) (all_one ⟨e1, by show (nots a i).length ≤ c9; omega, e3⟩)⟩
                have hF3 : ∀ d ∈ F ++ [nots a i], ∀ x ∈ d, okL i x := ok_snoc HF.out.1 (nots_ok a i)
                have hr3 : ∀ d ∈ F ++ [nots a i], d.length < 17592186044416 := fun d hd => by
                  rcases List.mem_append.1 hd with hd | hd
                  · exact HI.out.rows d hd
                  · obtain rfl := List.mem_singleton.1 hd
                    rw [nots_len]; have := HKK.out; omega
                have hl3 : (F ++ [nots a i]).length ≤ 5864062014804 := by have := HNS.out; rw [List.length_append, List.length_singleton, HNF.out]; omega
                obtain ⟨q3, hq3⟩ : ∃ q, cnt i (F ++ [nots a i]) [] = q := ⟨_, rfl⟩
                obtain ⟨Z, hZ⟩ : ∃ Z : Int, (q3 : Int) = Z := ⟨_, rfl⟩
                have hXZ : X - 1 = Z := by
                  have h1 := HNB.out
                  have h2 := HF.out.2.1
                  have h3 := HF.out.2.2
                  omega
                have hqb : q3 ≤ 4096 := by
                  rw [← hq3]
                  exact Nat.le_trans (cnt_le _ _ _) (Nat.le_trans (Nat.pow_le_pow_right (by decide) (show i ≤ 12 by have := HKK.out; omega)) (by decide))
                have hz1 : IntKind.i64.wrap (X - 1) = Z := by rw [hXZ]; exact IntWalk.i64_in _ (by omega)
                have hz2 : wrap64 (X - 1) = Z := by rw [hXZ]; unfold wrap64; omega
                have HC3 : Aside0 (∀ W A8 m8 c8, kh.R 37 W wr.heap.size (fun _ => True) (.slice A8 m8 c8) (hsF ++ [(A9, m9, c9)]) → Below wr.heap.size wr W → Calls Try.prog 16 #[.int .i64 (i : Int), .slice A8 m8 c8, .int .i64 1048576] W fun e w' => e = .returned (.tuple #[.int .i64 Z, .int .i64 0]) ∧ Below W.heap.size W w') := ⟨fun W A8 m8 c8 hR hW => by
                  obtain ⟨rfl, hin⟩ := In.heads hW hR HAW.out (by have := HKK.out; omega) hF3 hl3 hr3
                  have := count_few hin (K := i) (by have := HKK.out; omega) hF3
                  rwa [hq3, hZ] at this⟩
                have HBZ := Aside0.mk (Below.refl wr.heap.size wr)
                have HkW := Aside0.mk (Kd.C_below HkF.out hbw)
                clear HM e1 e2 e3 hbw hF3 hr3 hl3 hq3 hZ hXZ hqb
                go_wp2_with (first
            | (go_at_call 16; refine (HC3.out _ _ _ _ hRyc hByc).mono ?_; rintro e wyd ⟨rfl, hbyd⟩; have HByd := Aside0.mk (hByc.trans (hbyd.mono hByc.size)); clear hbyd)
            | ((with_reducible refine gate_dst (N := 109) rfl ?_); refine Kd.R_lit kh (w0 := wr) wr.heap.size 37 ?hg (N := 109) ?hd (xs := ([] : List Hd)) (inner := []) (ok := fun _ => True) (okp := fun _ => True) ?hr ?hp (fun _ hk => hk) trivial HBZ.out HBZ.out.size (by simp) ?_; (case hd => rfl); (case hg => rfl); (case hr => first | (go_simp; done) | (go_simp; rfl)); (case hp => exact (Reps.none _ _)); intro vya wya hRya hBya _ _)
            | ((with_reducible refine gate_builtin (b := .append) (xs := #[.tmp 109, .tmp 110]) rfl ?_); at_builtin; refine Kd.R_append_rows kh (Rr := fun x cs => cs = [hv x]) (w0 := wr) wr.heap.size rfl (.tmp 109) (.tmp 110) 22 37 (.slice none 0 0) 24 rfl Try.underlying22 info37 rfl (by decide) (by decide) vya [] hsF A nF c (fun _ => True) (fun _ => False) rfl rfl hRya ?aR (fun _ _ h => h) (fun _ h => h.elim) (fun _ _ => trivial) hBya hBya.size ?aL ?_; (case aR => exact Kd.C_below HkW.out hBya); (case aL => have := HNL.out; simp only [List.length_nil]; omega); intro vyb wyb hRyb hByb _ _; rw [List.nil_append] at hRyb)
            | ((with_reducible refine gate_builtin (b := .append) (xs := #[.tmp 111, .tmp 113]) rfl ?_); at_builtin; refine Kd.R_append kh (w0 := wr) wr.heap.size rfl (.tmp 111) (.tmp 113) 22 37 (.slice none 0 0) 24 rfl Try.underlying22 info37 rfl (by decide) (by decide) (W := wyb) vyb hsF (A9, m9, c9) [hv (A9, m9, c9)] (fun _ => True) (fun _ => False) rfl rfl rfl (fun _ hk => hk.elim) (fun _ _ => trivial) hRyb hByb hByb.size ?bL ?_; (case bL => have := HNL.out; have := HLF.out; omega); intro vyc wyc hRyc hByc _ _; obtain ⟨Ay, my, cy, rfl⟩ := R_sl hRyc))
                go_ret
                exact ⟨rfl, HBW.out.trans (HByd.out.mono HBW.out.size)⟩
          · clear HSS
            go_wp2_with fail
            go_ret
            exact ⟨rfl, HBS.out⟩
end Go.Proofs.Ytnhpfdnhnocgjaa.S
