/- prog.Read, walked. -/
import Derived.Test.YtckmgoeflecpgaaDoorGRead0
namespace Go.Proofs.YtckmgoeflecpgaaDoor.G
set_option linter.unusedVariables false
set_option linter.unusedSimpArgs false
open Go.RowKit Go.Proofs.YtckmgoeflecpgaaDoor.L Go.Proofs.YtckmgoeflecpgaaDoor.I Go.Proofs.YtckmgoeflecpgaaDoor.P Go.Proofs.YtckmgoeflecpgaaDoorW.PrintWords Go.Proofs.YtckmgoeflecpgaaDoorW.PrintLast Go.Proofs.YtckmgoeflecpgaaDoorW.PrintMore
set_option maxHeartbeats 8000000 in
set_option maxRecDepth 100000 in
theorem read14 (A : Option Addr) (n c : Nat) (b : List Int) (w : World) (hl : b.length = n) (hc : n ≤ c) (hC : Kd.C (Kd.int .u8) w A n b) (ok : okB b) :
    Calls Tryd.prog 14 #[.slice A n c] w fun e w' => readP w (readV b) e w' := by
  have H0 := Aside0.mk (RdW.start A n c b w hl hc hC)
  obtain ⟨x, hx, hx2⟩ := oneNat (b, false) ok
  have ok1 := (oneS_ok (b, false) ok).2.2
  obtain ⟨y, hy, hy2⟩ := oneNat (oneS (b, false)).2 ok1
  have ok2 := (oneS_ok (oneS (b, false)).2 ok1).2.2
  have hv : readV b = readV b := rfl
  conv at hv => rhs; unfold readV
  obtain ⟨s1, hs1⟩ : ∃ s1, (oneS (b, false)).2 = s1 := ⟨_, rfl⟩
  obtain ⟨s2, hs2⟩ : ∃ s2, (oneS s1).2 = s2 := ⟨_, rfl⟩
  have h1 := fun W vL L vN N (hR : RdW w (b, false) vL L vN N W) => RdW.one ok hR
  have h2 := fun W vL L vN N (hR : RdW w s1 vL L vN N W) => RdW.one (hs1 ▸ ok1) hR
  rw [hs1] at hy ok2
  rw [hs2] at ok2
  rw [hs1, hs2, hx, hy] at hv
  rw [hx, hs1] at h1
  rw [hy, hs2] at h2
  have H1 := Aside0.mk h1
  have H2 := Aside0.mk h2
  have HV := Aside0.mk hv
  generalize readV b = r at *
  clear h1 h2 hl hc hC hv hx hy hs1 hs2 ok ok1
  have hret : ∀ (W : World) vL L vN N s (h : RdW w s vL L vN N W) u v, ((W.setCell ⟨w.heap.size, 0, none⟩ u).setCell ⟨w.heap.size, 1, none⟩ v).cell? ⟨w.heap.size, 0, none⟩ = some u ∧ ((W.setCell ⟨w.heap.size, 0, none⟩ u).setCell ⟨w.heap.size, 1, none⟩ v).cell? ⟨w.heap.size, 1, none⟩ = some v := fun W vL L vN N s h u v => retC h.ret u v
  have HRET := Aside0.mk hret
  clear hret
  obtain ⟨l2, b2⟩ := s2
  by_cases hb : b2 = true ∨ (x : Int) ≠ 88 ∨ (y : Int) ≠ 82
  · have hr : r = ([], [], 4) := by rw [HV.out]; unfold headV; exact if_pos hb
    subst hr
    have hcs : b2 = true ∨ (b2 = false ∧ ((x : Int) != 88) = true) ∨ (b2 = false ∧ ((x : Int) != 88) = false ∧ ((y : Int) != 82) = true) := by
      cases b2
      · rcases hb with hb | hb
        · cases hb
        · by_cases q : (x : Int) = 88
          · exact .inr (.inr ⟨rfl, by rw [q]; rfl, bne_iff_ne.2 (hb.resolve_left (fun h => h q))⟩)
          · exact .inr (.inl ⟨rfl, bne_iff_ne.2 q⟩)
      · exact .inl rfl
    clear hb HV
    rcases hcs with rfl | ⟨rfl, q1⟩ | ⟨rfl, q1, q2⟩
    all_goals
      go_enter Tryd.func14, Tryd.ntmps14
      go_wp2_with (first
        | (go_at_call 21; refine (H2.out _ _ _ _ _ HR1.out).mono ?_; rintro e W2 ⟨rfl, hR2⟩; have HR2 := Aside0.mk hR2; obtain ⟨⟨A2, c2, e2, a0⟩, a1, a2, a3, a4, a5, a6, a7, a8, a9⟩ := hR2.cells; clear hR2)
        | (go_at_call 21; refine (H1.out _ _ _ _ _ H0.out).mono ?_; rintro e W1 ⟨rfl, hR1⟩; have HR1 := Aside0.mk hR1; clear hR1))
      obtain ⟨y0, y1⟩ := HRET.out _ _ _ _ _ _ HR2.out (.slice none 0 0) (.slice none 0 0)
      exact bodyPost_ret (v := .tuple #[.agg #[.slice none 0 0, .slice none 0 0], .int .i64 4]) (by simp [results, Tryd.results14, y0, y1, go_sem]) rfl (readP_bad 4 _ _ HR2.out.below)
  · have hb2 : b2 = false := by cases b2; rfl; exact absurd (.inl rfl) hb
    subst hb2
    have hr : r = bodyV (l2, false) := by rw [HV.out]; unfold headV; exact if_neg hb
    have q1 : ((x : Int) != 88) = false := by cases h : ((x : Int) != 88); rfl; exact absurd (.inr (.inl (bne_iff_ne.1 h))) hb
    have q2 : ((y : Int) != 82) = false := by cases h : ((y : Int) != 82); rfl; exact absurd (.inr (.inr (bne_iff_ne.1 h))) hb
    obtain ⟨k1, hk1, hk2⟩ := oneNat (l2, false) ok2
    have ok3 := (oneS_ok (l2, false) ok2).2.2
    obtain ⟨s3, hs3⟩ : ∃ s3, (oneS (l2, false)).2 = s3 := ⟨_, rfl⟩
    have h3 := fun W vL L vN N (hR : RdW w (l2, false) vL L vN N W) => RdW.one ok2 hR
    rw [hs3] at ok3
    unfold bodyV at hr
    rw [hk1, hs3, Int.toNat_natCast] at hr
    rw [hk1, hs3] at h3
    have H3 := Aside0.mk h3
    have HR := Aside0.mk hr
    have HO3 := Aside0.mk ok3
    clear h3 hr hs3 hk1 ok2 ok3 HV hb
    go_enter Tryd.func14, Tryd.ntmps14
    go_wp2_with (first
      | (go_at_call 21; refine (H3.out _ _ _ _ _ HR2.out).mono ?_; rintro e W3 ⟨rfl, hR3⟩; have HR3 := Aside0.mk hR3; clear hR3)
      | (go_at_call 21; refine (H2.out _ _ _ _ _ HR1.out).mono ?_; rintro e W2 ⟨rfl, hR2⟩; have HR2 := Aside0.mk hR2; obtain ⟨⟨A2, c2, e2, a0⟩, a1, a2, a3, a4, a5, a6, a7, a8, a9⟩ := hR2.cells; clear hR2)
      | (go_at_call 21; refine (H1.out _ _ _ _ _ H0.out).mono ?_; rintro e W1 ⟨rfl, hR1⟩; have HR1 := Aside0.mk hR1; clear hR1))
    clear a0 a1 a2 a3 a4 a5 a6 a7 a8 a9 e2 HR2 HR1 H0 H1 H2 H3
    go_loopw [32] (fun v32 wr => ∃ (i : Nat) (s : St) (vN : Value) (N : List ByteArray), v32 = .int .i64 (i : Int) ∧ i ≤ k1 ∧ Aside0 (okB s.1) ∧ Aside0 (RdW w s (.slice none 0 0) [] vN N wr) ∧ Aside0 (namesS (k1 - i) s N = namesS k1 s3 []) ∧ Aside0 (N.length = i)) (fun v32 _ => k1 - (intOf v32).toNat)
    case atStart => exact ⟨0, s3, _, [], rfl, Nat.zero_le _, HO3, HR3, ⟨rfl⟩, ⟨rfl⟩⟩
    case round =>
      obtain ⟨i, s, vN, N, rfl, hik, HOK, HRW, HN, HNL⟩ := hrel
      clear HR3 HO3
      by_cases hi : i < k1
      · have hit : decide ((i : Int) < (k1 : Int)) = true := decide_eq_true (by omega)
        obtain ⟨m, hm, hm2⟩ := oneNat s HOK.out
        have ok4 := (oneS_ok s HOK.out).2.2
        have ok5 := (okB_take m (oneS s).2 ok4).2
        have hstep : namesS (k1 - (i + 1)) (takeS m (oneS s).2).2 (N ++ [strOfNums (takeS m (oneS s).2).1]) = namesS k1 s3 [] := by
          rw [← HN.out, show k1 - i = k1 - (i + 1) + 1 by omega, namesS, hm, Int.toNat_natCast]
        have h4 := fun W vL L vN N (hR : RdW w s vL L vN N W) => RdW.one HOK.out hR
        rw [hm] at h4
        have H4 := Aside0.mk h4
        have H5 := Aside0.mk (fun W vL L vN N (hR : RdW w (oneS s).2 vL L vN N W) => RdW.take m (by omega) hR)
        have HST := Aside0.mk hstep
        have HO5 := Aside0.mk ok5
        generalize (oneS s).2 = s4 at *
        generalize takeS m s4 = tk at *
        obtain ⟨B, s5⟩ := tk
        dsimp only at *
        obtain ⟨sb, hsb⟩ : ∃ sb, strOfNums B = sb := ⟨_, rfl⟩
        rw [hsb] at HST
        clear h4 hstep ok4 ok5 hm
        obtain ⟨AN, cN, rfl⟩ := Kd.R_slice HRW.out.rowN
        obtain ⟨-, -, -, -, -, -, b6, b7, b8, b9⟩ := HRW.out.cells
        have HSB := Aside0.mk hsb
        have HL5 := Aside0.mk (show (N.length + 1) * 16 ≤ 140737488355328 by have := HNL.out; omega)
        clear hsb
        go_wp2_with fail
        go_region_law (first
          | (refine goes_ (f := 21) (N := some 38) Tryd.func21 (by kernel_rfl) rfl #[.pointer (some ⟨w.heap.size + 1, 0, none⟩)] rfl rfl rfl ?harg ?_; (case harg => (simp only [List.map_toArray, List.map_cons, List.map_nil]; rfl)); refine (H4.out _ _ _ _ _ HRW.out.drew).mono ?_; rintro e W1 ⟨rfl, hR1⟩; refine ⟨_, rfl, ?_⟩; have HR1 := Aside0.mk hR1; obtain ⟨-, -, -, -, -, -, c6, c7, c8, c9⟩ := hR1.cells; clear hR1)
          | (refine goes_ (f := 22) (N := some 39) Tryd.func22 (by kernel_rfl) rfl #[.pointer (some ⟨w.heap.size + 1, 0, none⟩), .int .i64 (m : Int)] rfl rfl rfl ?harg ?_; (case harg => (simp only [List.map_toArray, List.map_cons, List.map_nil]; rfl)); refine (H5.out _ _ _ _ _ HR1.out).mono ?_; rintro e W2 ⟨A2, c2, rfl, hC2, hR2⟩; refine ⟨_, rfl, ?_⟩; have HR2 := Aside0.mk hR2; obtain ⟨-, -, -, -, -, -, d6, d7, d8, d9⟩ := hR2.cells; have hcv := Kd.C_string (P := Tryd.prog) (A := A2) (c := c2) Tryd.underlying28 Tryd.underlying5 Tryd.underlying9 hC2; rw [HSB.out] at hcv; have e7 : (W2.alloc (.cells #[.string sb] 9)).cell? ⟨w.heap.size + 1 + 1, 1, none⟩ = some (.slice AN N.length cN) := (blk_cell (blk_alloc hR2.pb _) 1).trans rfl; clear hR2 hC2)
          | (refine Kd.R_append_step Kd.string (W := W2) (w0 := w) w.heap.size rfl (.tmp 35) (.tmp 41) 23 9 _ 16 rfl Tryd.underlying23 info9 rfl (by decide) (by decide) (.slice AN N.length cN) N sb [.string sb] AnyK (fun _ => False) rfl rfl rfl (fun _ hk => hk.elim) (fun _ _ => trivial) HR2.out.rowN HR2.out.below HR2.out.below.size HL5.out ?_; intro v5 w5 T5 B5 G5 _; obtain ⟨A5, cc5, rfl⟩ := Kd.R_slice T5; have hR5 := HR2.out.nameMore T5 B5 G5; rw [List.length_append, List.length_singleton] at hR5; have HR5 := Aside0.mk hR5; clear hR5; obtain ⟨g7, g9⟩ := HR2.out.afterN G5; clear T5 B5 G5))
        all_goals go_wp2_with fail
        all_goals
          go_roundw
          case rel => exact ⟨i + 1, s5, _, N ++ [sb], by go_num, by omega, HO5, HR5, HST, ⟨by rw [List.length_append, HNL.out]; rfl⟩⟩
          case measure => simp [intOf]; omega
      · have hit : decide ((i : Int) < (k1 : Int)) = false := decide_eq_false (by omega)
        have hi0 : k1 - i = 0 := by omega
        have hn0 := HN.out
        rw [hi0, namesS] at hn0
        have hr2 := HR.out
        rw [← hn0] at hr2
        obtain ⟨k2, hk2, hk3⟩ := oneNat s HOK.out
        have ok5 := (oneS_ok s HOK.out).2.2
        have h5 := fun W vL L vN N (hR : RdW w s vL L vN N W) => RdW.one HOK.out hR
        unfold tail2 at hr2
        rw [hk2] at h5 hr2
        rw [Int.toNat_natCast] at hr2
        generalize (oneS s).2 = s5 at *
        have H5 := Aside0.mk h5
        have HO5 := Aside0.mk ok5
        have HR' := Aside0.mk hr2
        clear h5 hr2 ok5 hn0 hk2 HN HR hi0
        go_wp2_with (go_at_call 21; refine (H5.out _ _ _ _ _ HRW.out).mono ?_; rintro e W5 ⟨rfl, hR5⟩; have HR5 := Aside0.mk hR5; clear hR5)
        clear HRW H5
        go_loopw [47] (fun v47 wr => ∃ (j : Nat) (s : St) (vL : Value) (L : List S41), v47 = .int .i64 (j : Int) ∧ j ≤ k2 ∧ Aside0 (okB s.1) ∧ Aside0 (RdW w s vL L vN N wr) ∧ Aside0 (instS (k2 - j) s L = instS k2 s5 []) ∧ Aside0 (L.length = j)) (fun v47 _ => k2 - (intOf v47).toNat)
        case atStart => exact ⟨0, s5, _, [], rfl, Nat.zero_le _, HO5, HR5, ⟨rfl⟩, ⟨rfl⟩⟩
        case round =>
          obtain ⟨j, s, vL, L, rfl, hjk, HOK, HRW, HN, HNL⟩ := hrel
          clear HR5 HO5
          by_cases hj : j < k2
          · have hjt : decide ((j : Int) < (k2 : Int)) = true := decide_eq_true (by omega)
            have okt := okB_take 3 s HOK.out
            have hlt := takeS_len 3 s
            have hstep : instS (k2 - (j + 1)) (takeS 3 s).2 (L ++ [instOf (takeS 3 s).1]) = instS k2 s5 [] := by
              rw [← HN.out, show k2 - j = k2 - (j + 1) + 1 by omega, instS]
            have h6 := fun W vL L vN N (hR : RdW w s vL L vN N W) => RdW.take 3 (by omega) hR
            generalize takeS 3 s = tk at *
            obtain ⟨B, s6⟩ := tk
            dsimp only at *
            obtain ⟨b0, b1, b2, rfl⟩ : ∃ b0 b1 b2, B = [b0, b1, b2] := by
              match B, hlt with
              | [b0, b1, b2], _ => exact ⟨_, _, _, rfl⟩
            have g0 := okt.1 b0 (by simp)
            have g1 := okt.1 b1 (by simp)
            have g2 := okt.1 b2 (by simp)
            have hio : instOf [b0, b1, b2] = ⟨b0, b1 * 256 + b2⟩ := rfl
            rw [hio] at hstep
            have HO6 := Aside0.mk okt.2
            have H6 := Aside0.mk h6
            have HST := Aside0.mk hstep
            obtain ⟨AL, cL, rfl⟩ := Kd.R_slice HRW.out.rowL
            have HL6 := Aside0.mk (show (L.length + 1) * 16 ≤ 140737488355328 by have := HNL.out; omega)
            have HIR := Aside0.mk (inst_raw b0 b1 b2 g0 g1 g2)
            clear g0 g1 g2
            clear h6 hstep okt hlt hio
            go_wp2_with (go_at_call 22; refine (H6.out _ _ _ _ _ HRW.out).mono ?_; rintro e W6 ⟨A6, c6, rfl, hC6, hR6⟩; have HR6 := Aside0.mk hR6; obtain ⟨-, -, -, -, -, -, d6, d7, d8, d9⟩ := hR6.cells; have e6 : ∀ o, (W6.alloc o).cell? ⟨w.heap.size + 1 + 1, 0, none⟩ = some (.slice AL L.length cL) := fun o => (blk_cell (blk_alloc hR6.pb o) 0).trans rfl; obtain ⟨ad, rfl, hcell⟩ := (Kd.reads_of_C (enc := Value.int .u8) (d := (0 : Int)) (h1 := fun _ => rfl) hC6).2.2 (by omega); have x0 := hcell 0 (by omega); have x1 := hcell 1 (by omega); have x2 := hcell 2 (by omega); rw [Addr.add_zero'] at x0; rw [show ad.add 1 = ⟨ad.block, ad.off + 1, none⟩ by unfold Addr.add; rfl] at x1; rw [show ad.add 2 = ⟨ad.block, ad.off + 2, none⟩ by unfold Addr.add; rfl] at x2; clear hR6 hC6 hcell)
            go_region_law (refine Kd.R_append_step k41 (W := W6.drew) (w0 := w) w.heap.size rfl (.tmp 52) (.tmp 68) 22 41 _ 16 rfl Tryd.underlying22 info41 rfl (by decide) (by decide) (.slice AL L.length cL) L ⟨IntKind.i64.wrap b0, Go.bits .or .i64 (IntKind.i64.wrap (IntKind.i64.wrap b1 * 256)) (IntKind.i64.wrap b2)⟩ [.int .i64 (IntKind.i64.wrap b0), .int .i64 (Go.bits .or .i64 (IntKind.i64.wrap (IntKind.i64.wrap b1 * 256)) (IntKind.i64.wrap b2))] AnyK (fun _ => False) rfl rfl (k41_mkM _ _ _ _) (fun _ hk => hk.elim) (fun _ _ => trivial) HR6.out.drew.rowL HR6.out.drew.below HR6.out.drew.below.size HL6.out ?_; intro v5 w5 T5 B5 G5 _; obtain ⟨A5, cc5, rfl⟩ := Kd.R_slice T5; rw [HIR.out] at T5; have hR7 := HR6.out.drew.instMore T5 B5 G5; rw [List.length_append, List.length_singleton] at hR7; have HR7 := Aside0.mk hR7; clear hR7; obtain ⟨g7, g9⟩ := HR6.out.drew.afterL G5; clear T5 B5 G5)
            all_goals go_wp2_with fail
            all_goals
              go_roundw
              case rel => exact ⟨j + 1, s6, _, L ++ [⟨b0, b1 * 256 + b2⟩], by go_num, by omega, HO6, HR7, HST, ⟨by rw [List.length_append, HNL.out]; rfl⟩⟩
              case measure => simp [intOf]; omega
          · have hjt : decide ((j : Int) < (k2 : Int)) = false := decide_eq_false (by omega)
            have hj0 : k2 - j = 0 := by omega
            have hn0 := HN.out
            rw [hj0, instS] at hn0
            have hr3 := HR'.out
            rw [← hn0] at hr3
            dsimp only at hr3
            obtain ⟨l6, b6⟩ := s
            obtain ⟨AL, cL, rfl⟩ := Kd.R_slice HRW.out.rowL
            obtain ⟨AN, cN, rfl⟩ := Kd.R_slice HRW.out.rowN
            obtain ⟨⟨A6, c6, e6, a0⟩, a1, a2, a3, a4, a5, a6, a7, a8, a9⟩ := HRW.out.cells
            dsimp only at a0 a1
            clear HN HR' hn0 hj0 HOK
            by_cases hb : b6 = true ∨ 0 < l6.length
            · have hr : r = ([], [], 4) := by rw [hr3]; unfold finV; exact if_pos hb
              subst hr
              clear hr3
              have hcs : b6 = true ∨ (b6 = false ∧ decide (0 < (l6.length : Int)) = true ∧ decide (0 < l6.length) = true) := by
                cases b6
                · rcases hb with hb | hb
                  · cases hb
                  · exact .inr ⟨rfl, decide_eq_true (by omega), decide_eq_true hb⟩
                · exact .inl rfl
              clear hb
              rcases hcs with rfl | ⟨rfl, p1, p2⟩
              all_goals
                go_wp2_with fail
                obtain ⟨y0, y1⟩ := HRET.out _ _ _ _ _ _ HRW.out (.slice none 0 0) (.slice none 0 0)
                exact bodyPost_ret (v := .tuple #[.agg #[.slice none 0 0, .slice none 0 0], .int .i64 4]) (by simp [results, Tryd.results14, y0, y1, go_sem]) rfl (readP_bad 4 _ _ HRW.out.below)
            · have hb2 : b6 = false := by cases b6; rfl; exact absurd (.inl rfl) hb
              subst hb2
              have p1 : decide (0 < (l6.length : Int)) = false := decide_eq_false (by intro h; exact hb (.inr (by omega)))
              have p2 : decide (0 < l6.length) = false := decide_eq_false (fun h => hb (.inr h))
              have hr : r = if mayV L N ≠ 0 then ([], [], mayV L N) else (L, N, 0) := by rw [hr3]; unfold finV; exact if_neg hb
              clear hb hr3
              have hCL := (Kd.R_reads' HRW.out.rowL).2
              have hCN := (Kd.R_reads' HRW.out.rowN).2
              obtain ⟨km, hkm⟩ := (may_ev L N).rounds
              have hmay := prog_may.calls km AL cL L AN cN N (mayV L N) wr hCL.2 hCL.1 hCN.2 hCN.1 hkm
              have HMAY := Aside0.mk hmay
              have HRR := Aside0.mk hr
              clear hmay hkm hCL hCN hr
              generalize mayV L N = mv at *
              by_cases hm : mv = 0
              · subst hm
                have hr : r = (L, N, 0) := HRR.out.trans (if_neg (by simp))
                subst hr
                go_wp2_with (go_at_call 20; refine HMAY.out.mono ?_; rintro e W8 ⟨rfl, hB8⟩; have HR8 := Aside0.mk (HRW.out.keep hB8); obtain ⟨-, -, f2, f3, f4, f5, f6, f7, f8, f9⟩ := HR8.out.cells)
                obtain ⟨y0, y1⟩ := HRET.out _ _ _ _ _ _ HR8.out (.slice AL L.length cL) (.slice AN N.length cN)
                exact bodyPost_ret (v := .tuple #[.agg #[.slice AL L.length cL, .slice AN N.length cN], .int .i64 0]) (by simp [results, Tryd.results14, y0, y1, go_sem]) rfl (readP_ok HR8.out _ _)
              · have hr : r = ([], [], mv) := HRR.out.trans (if_pos hm)
                subst hr
                have p3 : (mv != 0) = true := bne_iff_ne.2 hm
                clear hm HRR
                go_wp2_with (go_at_call 20; refine HMAY.out.mono ?_; rintro e W8 ⟨rfl, hB8⟩; have HR8 := Aside0.mk (HRW.out.keep hB8); obtain ⟨-, -, f2, f3, f4, f5, f6, f7, f8, f9⟩ := HR8.out.cells)
                obtain ⟨y0, y1⟩ := HRET.out _ _ _ _ _ _ HR8.out (.slice none 0 0) (.slice none 0 0)
                exact bodyPost_ret (v := .tuple #[.agg #[.slice none 0 0, .slice none 0 0], .int .i64 mv]) (by simp [results, Tryd.results14, y0, y1, go_sem]) rfl (readP_bad mv _ _ HR8.out.below)
end Go.Proofs.YtckmgoeflecpgaaDoor.G
