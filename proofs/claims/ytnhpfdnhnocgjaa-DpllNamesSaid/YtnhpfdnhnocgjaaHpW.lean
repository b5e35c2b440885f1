/- DpllNames: walked by hand. -/
import Derived.Test.YtnhpfdnhnocgjaaHpV
namespace Go.Proofs.Ytnhpfdnhnocgjaa.S
open Go.RowKit Go.Proofs.Ytnhpfdnhnocgjaa.D Go.Proofs.Ytnhpfdnhnocgjaa.Lem Go.Proofs.YtnhpfdnhnocgjaaW.PrintWords Go.Proofs.YtnhpfdnhnocgjaaW.PrintLast Go.Proofs.YtnhpfdnhnocgjaaW.PrintMore
set_option linter.unusedVariables false
set_option linter.unusedSimpArgs false
attribute [local go_sem] max2_int min2_int max_two min_two
/-- The formula so far, and a row that is being written. -/
structure TwoM (w : World) (v7 v9 : Value) (F : List (List Int)) (L : List Int) (W : World) : Prop where
  below : Below w.heap.size w W
  F : kRow.R 37 W w.heap.size (fun k => some k ≠ v9.ownBlock) v7 F
  L : (Kd.int .i64).R 3 W w.heap.size (fun _ => True) v9 L
structure OneM (w : World) (v7 : Value) (F : List (List Int)) (W : World) : Prop where
  below : Below w.heap.size w W
  F : kRow.R 37 W w.heap.size (fun _ => True) v7 F
set_option maxRecDepth 100000 in
set_option maxHeartbeats 1000000 in
theorem names6 {w : World} {A : Option Addr} {c : Nat} {F : List (List Int)} (h : In w A c F) (n flip : Int) (hn0 : 0 ≤ n) (hn1 : n ≤ 255) (hf0 : 0 ≤ flip) (hf1 : flip ≤ 65535) :
    Calls Try.prog 6 #[.int .u8 n, .slice A F.length c, .int .u16 flip] w fun e w' => e = .returned (.bool true) ∧ Below w.heap.size w w' := by
  have HI := Aside0.mk h
  obtain ⟨sb, hsb⟩ := small11 h 400
  have HSM := Aside0.mk hsb
  have c1 : IntKind.i64.wrap n = n := IntWalk.i64_in _ (by omega)
  obtain ⟨K, hK⟩ : ∃ K : Nat, n % 11 = (K : Int) := ⟨(n % 11).toNat, by omega⟩
  have HKK : Aside0 (K ≤ 10) := ⟨by omega⟩
  have HMY := Aside0.mk (fun W (hW : Below w.heap.size w W) => rmay13 (h.below hW) (K : Int))
  obtain ⟨b, hb⟩ : ∃ b, mayB (K : Int) F = b := ⟨_, rfl⟩
  have HM := Aside0.mk hb
  rw [hb] at HMY
  obtain ⟨nF, hnF⟩ : ∃ m, F.length = m := ⟨_, rfl⟩
  have HNF := Aside0.mk hnF
  have HNL : Aside0 (nF ≤ 5864062014804) := ⟨by rw [← hnF]; exact h.len⟩
  rw [hnF] at HSM HMY ⊢
  clear h hsb hb hnF
  cases sb with
  | false =>
    go_enter Try.func6, Try.ntmps6
    go_wp2_with (first
      | (go_at_call 11; refine (HSM.out _ HB1.out).mono ?_; rintro e w2 ⟨rfl, hb2⟩; have HB2 := Aside0.mk hb2; clear hb2)
      | (go_at_call 10; refine (awake10 _).mono ?_; rintro e w1 ⟨rfl, hb1⟩; have HB1 := Aside0.mk hb1; clear hb1))
    go_ret
    exact ⟨rfl, HB1.out.trans (HB2.out.mono HB1.out.size)⟩
  | true =>
    cases b with
    | false =>
      go_enter Try.func6, Try.ntmps6
      go_wp2_with (first
        | (go_at_call 13; refine (HMY.out _ (HB1.out.trans (HB2.out.mono HB1.out.size))).mono ?_; rintro e w3 ⟨rfl, hb3⟩; have HB3 := Aside0.mk hb3; clear hb3)
        | (go_at_call 11; refine (HSM.out _ HB1.out).mono ?_; rintro e w2 ⟨rfl, hb2⟩; have HB2 := Aside0.mk hb2; clear hb2)
        | (go_at_call 10; refine (awake10 _).mono ?_; rintro e w1 ⟨rfl, hb1⟩; have HB1 := Aside0.mk hb1; clear hb1))
      go_ret
      have hB2 := HB1.out.trans (HB2.out.mono HB1.out.size)
      exact ⟨rfl, hB2.trans (HB3.out.mono hB2.size)⟩
    | true =>
      obtain ⟨m0, m1, m2⟩ := (mayB_iff _ F).1 HM.out
      rw [Int.toNat_natCast] at m2
      have HF := Aside0.mk m2
      have HM0 := HM
      clear m0 m1 m2 HM
      go_enter Try.func6, Try.ntmps6
      go_upto_region 6 with (first
        | (go_at_call 13; refine (HMY.out _ (HB1.out.trans (HB2.out.mono HB1.out.size))).mono ?_; rintro e w3 ⟨rfl, hb3⟩; have HB3 := Aside0.mk hb3; clear hb3)
        | (go_at_call 11; refine (HSM.out _ HB1.out).mono ?_; rintro e w2 ⟨rfl, hb2⟩; have HB2 := Aside0.mk hb2; clear hb2)
        | (go_at_call 10; refine (awake10 _).mono ?_; rintro e w1 ⟨rfl, hb1⟩; have HB1 := Aside0.mk hb1; clear hb1))
      have HB0 : Aside0 (Below w.heap.size w w3) := ⟨by
        have hB2 := HB1.out.trans (HB2.out.mono HB1.out.size)
        exact hB2.trans (HB3.out.mono hB2.size)⟩
      clear HB1 HB2 HB3 hn0 hn1 c1 hK HSM HMY
      obtain ⟨bf, hbf⟩ : ∃ bf : Int → Bool, bf = fun v => (Go.bits .and .u16 (flip / 2 ^ min v.toNat 16) 1 == 1) := ⟨_, rfl⟩
      have HBF := Aside0.mk hbf
      clear hbf
      have H0 : Aside0 (OneM w (.slice none 0 0) (turnF K bf (F.drop nF)) w3) := ⟨⟨HB0.out, by rw [← HNF.out, List.drop_length]; exact Kd.R_nil _ _ _ _ _⟩⟩
      have e0 : IntKind.i64.wrap ((nF : Int) - 1) = (nF : Int) - 1 := IntWalk.i64_in _ (by have := HNL.out; omega)
      have z1 : IntKind.i64.wrap ((K : Int) + 1) = (K : Int) + 1 := IntWalk.i64_in _ (by have := HKK.out; omega)
      go_wp2_with fail
      go_loopg [8, 9] nF (fun kq v8 v9 wr => ∃ (u8 : Value) (i : Int), u8 = v8 ∧ v9 = .int .i64 i ∧ i + 1 = (kq : Int) ∧ kq ≤ nF ∧ Aside0 (OneM w u8 (turnF K bf (F.drop kq)) wr))
      case atStart => exact ⟨_, _, rfl, rfl, by omega, Nat.le_refl _, H0⟩
      case round =>
        clear H0 e0
        obtain ⟨v8, i, rfl, rfl, hi, hk, HM⟩ := hrel
        by_cases h0 : 0 ≤ i
        · obtain ⟨kq, rfl⟩ : ∃ k, gk = k + 1 := ⟨gk - 1, by omega⟩
          obtain rfl : i = (kq : Int) := by omega
          have hw : IntKind.i64.wrap ((kq : Int) - 1) = (kq : Int) - 1 := IntWalk.i64_in _ (by have := HNL.out; omega)
          have p1 : (kq : Int) < (nF : Int) := by omega
          obtain ⟨ad, A0, c0, rfl, hcell, hle, hKd⟩ := P.at_L1 HI.out.row (kq : Int) h0 (by rw [HNF.out]; omega)
          rw [Int.toNat_natCast] at hcell
          obtain ⟨d, hd⟩ : ∃ d, P.rd_L1 F (kq : Int) = d := ⟨_, rfl⟩
          rw [hd] at hcell hle hKd
          have hkF : kq < F.length := by rw [HNF.out]; omega
          have hget : F[kq]? = some d := by
            rw [← hd]
            unfold P.rd_L1
            rw [Int.toNat_natCast, List.getD_eq_getElem?_getD, List.getElem?_eq_getElem hkF]; rfl
          have HG := Aside0.mk hget
          have HD : Aside0 (∀ x ∈ d, okL K x) := ⟨HF.out d (List.mem_iff_getElem?.2 ⟨kq, hget⟩)⟩
          have HDL : Aside0 (d.length < 17592186044416) := ⟨HI.out.rows d (List.mem_iff_getElem?.2 ⟨kq, hget⟩)⟩
          obtain ⟨nd, hnd⟩ : ∃ m, d.length = m := ⟨_, rfl⟩
          have HND := Aside0.mk hnd
          rw [hnd] at hcell hKd HDL
          have HC : Aside0 (∀ W, Below w.heap.size w W → W.cell? (ad.add kq) = some (.slice A0 nd c0)) := ⟨fun W hb => cell_later hb hcell⟩
          have HKD := Aside0.mk hKd
          clear hle hKd hcell hget hkF hd hnd
          have H1 : Aside0 (TwoM w v8 (.slice none 0 0) (turnF K bf (F.drop (kq + 1))) ((d.take 0).map (turn K bf)) wr) := ⟨⟨HM.out.below, Kd.R_mono HM.out.F (fun k _ => by simp [Value.ownBlock]), Kd.R_nil _ _ _ _ _⟩⟩
          go_wp2_with fail
          go_loopg [10, 11] nd (fun kr v10 v11 wr => ∃ (u10 : Value) (j : Nat), u10 = v10 ∧ v11 = .int .i64 (j : Int) ∧ j + kr = nd ∧ Aside0 (TwoM w v8 u10 (turnF K bf (F.drop (kq + 1))) ((d.take j).map (turn K bf)) wr))
          case atStart => exact ⟨_, 0, rfl, rfl, by omega, H1⟩
          case round =>
            clear H1 HM
            obtain ⟨v10, j, rfl, rfl, hj, HM⟩ := hrel
            rename World => wz
            have y1 := HC.out _ HM.out.below
            by_cases hlj : (j : Int) < (nd : Int)
            · obtain ⟨kr, rfl⟩ : ∃ k, gk = k + 1 := ⟨gk - 1, by omega⟩
              have hw2 : IntKind.i64.wrap ((j : Int) + 1) = ((j + 1 : Nat) : Int) := by have := HDL.out; rw [IntWalk.i64_in _ (by omega)]; rfl
              obtain ⟨ad0, rfl, hx0⟩ := Kd.at_int HKD.out (j : Int) (by omega) hlj
              rw [Int.toNat_natCast] at hx0
              have y2 := cell_later HM.out.below hx0
              obtain ⟨x, hx⟩ : ∃ x, rd d (j : Int) = x := ⟨_, rfl⟩
              rw [hx] at y2
              have hgx : d[j]? = some x := by
                rw [← hx]
                have hl : j < d.length := by rw [HND.out]; omega
                unfold rd
                rw [Int.toNat_natCast, List.getD_eq_getElem?_getD, List.getElem?_eq_getElem hl]; rfl
              have HX : Aside0 (d[j]? = some x ∧ okL K x) := ⟨hgx, HD.out x (List.mem_iff_getElem?.2 ⟨j, hgx⟩)⟩
              have hj0 : (0 : Int) ≤ (j : Int) := by omega
              clear hx0 hx hgx
              by_cases hpos : 0 < x
              · skip
                have g1 : IntKind.i64.wrap (-x) = -x := IntWalk.i64_in _ (by have := HX.out.2.2; have := HKK.out; omega)
                have g2 : -x ≤ x := by omega
                have g3 : decide (0 < x) = true := decide_eq_true hpos
                obtain ⟨V, hV⟩ : ∃ V, (K : Int) + 1 - x = V := ⟨_, rfl⟩
                have hVa : (K : Int) + 1 - (x.natAbs : Int) = V := by omega
                have hVb : 1 ≤ V ∧ V ≤ 20 := by have := HX.out.2.2; have := HKK.out; omega
                have g4 : IntKind.i64.wrap ((K : Int) + 1 - x) = V := by rw [hV]; exact IntWalk.i64_in _ (by omega)
                have g5 : IntKind.u64.wrap V = V := IntWalk.u64_in _ (by omega)
                have g6 : 0 ≤ V := by omega
                have g7 : IntKind.i64.wrap (-V) = -V := IntWalk.i64_in _ (by omega)
                have g9 : wrap64 (-V) = -V := by unfold wrap64; omega
                have HBV : Aside0 (bf V = (Go.bits .and .u16 (flip / 2 ^ min V.toNat 16) 1 == 1)) := ⟨by rw [HBF.out]⟩
                have HTV : Aside0 (turn K bf x = if decide (0 < x) = bf V then -V else V) := ⟨by unfold turn; rw [hVa]⟩
                rw [g3] at HTV
                clear hV hVa hVb
                obtain ⟨bv, hbv⟩ : ∃ b, (Go.bits .and .u16 (flip / 2 ^ min V.toNat 16) 1 == 1) = b := ⟨_, rfl⟩
                rw [hbv] at HBV
                cases bv with
                | false =>
                  have HT : Aside0 (turn K bf x = V) := ⟨by rw [HTV.out, HBV.out]; rfl⟩
                  clear HTV HBV
                  go_wp2_with (at_builtin; refine Kd.R_append (Kd.int .i64) (w0 := w) w.heap.size rfl (.tmp 79) (.tmp 81) 37 3 (.int .i64 0) 8 rfl Try.underlying37 P.info3 rfl (by decide) (by decide) v10 ((d.take j).map (turn K bf)) V [.int .i64 V] (fun _ => True) (fun _ => False) rfl rfl rfl (fun _ hk => hk.elim) (fun _ _ => trivial) HM.out.L HM.out.below HM.out.below.size ?aL ?_; (case aL => have := HDL.out; rw [List.length_map, List.length_take, HND.out]; omega); intro v1 w1 T1 B1 G1 A1; have HM2 : Aside0 (TwoM w v8 v1 (turnF K bf (F.drop (kq + 1))) ((d.take (j + 1)).map (turn K bf)) w1) := ⟨⟨B1, R_two HM.out.F G1 A1, by rw [take_get HX.out.1, List.map_append, List.map_singleton, HT.out]; exact T1⟩⟩; clear T1 B1 G1 A1)
                  go_roundg kr
                  case measure => omega
                  case rel => exact ⟨v1, j + 1, rfl, rfl, by omega, HM2⟩
                | true =>
                  have HT : Aside0 (turn K bf x = -V) := ⟨by rw [HTV.out, HBV.out]; rfl⟩
                  clear HTV HBV
                  go_wp2_with (at_builtin; refine Kd.R_append (Kd.int .i64) (w0 := w) w.heap.size rfl (.tmp 79) (.tmp 81) 37 3 (.int .i64 0) 8 rfl Try.underlying37 P.info3 rfl (by decide) (by decide) v10 ((d.take j).map (turn K bf)) (-V) [.int .i64 (-V)] (fun _ => True) (fun _ => False) rfl rfl rfl (fun _ hk => hk.elim) (fun _ _ => trivial) HM.out.L HM.out.below HM.out.below.size ?aL ?_; (case aL => have := HDL.out; rw [List.length_map, List.length_take, HND.out]; omega); intro v1 w1 T1 B1 G1 A1; have HM2 : Aside0 (TwoM w v8 v1 (turnF K bf (F.drop (kq + 1))) ((d.take (j + 1)).map (turn K bf)) w1) := ⟨⟨B1, R_two HM.out.F G1 A1, by rw [take_get HX.out.1, List.map_append, List.map_singleton, HT.out]; exact T1⟩⟩; clear T1 B1 G1 A1)
                  go_roundg kr
                  case measure => omega
                  case rel => exact ⟨v1, j + 1, rfl, rfl, by omega, HM2⟩
              · skip
                obtain ⟨y, hy⟩ : ∃ y, -x = y := ⟨_, rfl⟩
                have g1 : IntKind.i64.wrap (-x) = y := by rw [hy]; exact IntWalk.i64_in _ (by have := HX.out.2.2; have := HKK.out; omega)
                have g2 : x < y := by have := HX.out.2.1; omega
                have g3 : decide (0 < x) = false := decide_eq_false hpos
                obtain ⟨V, hV⟩ : ∃ V, (K : Int) + 1 - y = V := ⟨_, rfl⟩
                have hVa : (K : Int) + 1 - (x.natAbs : Int) = V := by have := HX.out.2.1; omega
                have hVb : 1 ≤ V ∧ V ≤ 20 := by have := HX.out.2.2; have := HX.out.2.1; have := HKK.out; omega
                have g4 : IntKind.i64.wrap ((K : Int) + 1 - y) = V := by rw [hV]; exact IntWalk.i64_in _ (by omega)
                have g8 : wrap64 ((K : Int) + 1 - y) = V := by rw [hV]; unfold wrap64; omega
                have g5 : IntKind.u64.wrap V = V := IntWalk.u64_in _ (by omega)
                have g6 : 0 ≤ V := by omega
                have g7 : IntKind.i64.wrap (-V) = -V := IntWalk.i64_in _ (by omega)
                have g9 : wrap64 (-V) = -V := by unfold wrap64; omega
                have HBV : Aside0 (bf V = (Go.bits .and .u16 (flip / 2 ^ min V.toNat 16) 1 == 1)) := ⟨by rw [HBF.out]⟩
                have HTV : Aside0 (turn K bf x = if decide (0 < x) = bf V then -V else V) := ⟨by unfold turn; rw [hVa]⟩
                rw [g3] at HTV
                clear hV hVa hVb hy
                obtain ⟨bv, hbv⟩ : ∃ b, (Go.bits .and .u16 (flip / 2 ^ min V.toNat 16) 1 == 1) = b := ⟨_, rfl⟩
                rw [hbv] at HBV
                cases bv with
                | false =>
                  have HT : Aside0 (turn K bf x = -V) := ⟨by rw [HTV.out, HBV.out]; rfl⟩
                  clear HTV HBV
                  go_wp2_with (at_builtin; refine Kd.R_append (Kd.int .i64) (w0 := w) w.heap.size rfl (.tmp 79) (.tmp 81) 37 3 (.int .i64 0) 8 rfl Try.underlying37 P.info3 rfl (by decide) (by decide) v10 ((d.take j).map (turn K bf)) (-V) [.int .i64 (-V)] (fun _ => True) (fun _ => False) rfl rfl rfl (fun _ hk => hk.elim) (fun _ _ => trivial) HM.out.L HM.out.below HM.out.below.size ?aL ?_; (case aL => have := HDL.out; rw [List.length_map, List.length_take, HND.out]; omega); intro v1 w1 T1 B1 G1 A1; have HM2 : Aside0 (TwoM w v8 v1 (turnF K bf (F.drop (kq + 1))) ((d.take (j + 1)).map (turn K bf)) w1) := ⟨⟨B1, R_two HM.out.F G1 A1, by rw [take_get HX.out.1, List.map_append, List.map_singleton, HT.out]; exact T1⟩⟩; clear T1 B1 G1 A1)
                  go_roundg kr
                  case measure => omega
                  case rel => exact ⟨v1, j + 1, rfl, rfl, by omega, HM2⟩
                | true =>
                  have HT : Aside0 (turn K bf x = V) := ⟨by rw [HTV.out, HBV.out]; rfl⟩
                  clear HTV HBV
                  go_wp2_with (at_builtin; refine Kd.R_append (Kd.int .i64) (w0 := w) w.heap.size rfl (.tmp 79) (.tmp 81) 37 3 (.int .i64 0) 8 rfl Try.underlying37 P.info3 rfl (by decide) (by decide) v10 ((d.take j).map (turn K bf)) V [.int .i64 V] (fun _ => True) (fun _ => False) rfl rfl rfl (fun _ hk => hk.elim) (fun _ _ => trivial) HM.out.L HM.out.below HM.out.below.size ?aL ?_; (case aL => have := HDL.out; rw [List.length_map, List.length_take, HND.out]; omega); intro v1 w1 T1 B1 G1 A1; have HM2 : Aside0 (TwoM w v8 v1 (turnF K bf (F.drop (kq + 1))) ((d.take (j + 1)).map (turn K bf)) w1) := ⟨⟨B1, R_two HM.out.F G1 A1, by rw [take_get HX.out.1, List.map_append, List.map_singleton, HT.out]; exact T1⟩⟩; clear T1 B1 G1 A1)
                  go_roundg kr
                  case measure => omega
                  case rel => exact ⟨v1, j + 1, rfl, rfl, by omega, HM2⟩
            · obtain rfl : j = nd := by omega
              have e1 : d.take j = d := by rw [← HND.out]; exact List.take_length
              have HFF : Aside0 (kRow.R 37 wz w.heap.size (fun _ => True) v8 (turnF K bf (F.drop (kq + 1)))) := ⟨Kd.R_mono HM.out.F fun _ _ => trivial⟩
              have HLL := Aside0.mk HM.out.L
              rw [e1] at HLL
              obtain ⟨dm, hdm⟩ : ∃ dm, d.map (turn K bf) = dm := ⟨_, rfl⟩
              rw [hdm] at HLL
              have HDM := Aside0.mk hdm
              clear hdm
              have HLE : Aside0 ((turnF K bf (F.drop (kq + 1))).length ≤ nF) := ⟨by unfold turnF; rw [List.length_reverse, List.length_map, List.length_drop, HNF.out]; omega⟩
              obtain ⟨A9, c9, rfl⟩ := Kd.R_slice HLL.out
              have HBL := Aside0.mk HM.out.below
              clear e1 HM
              go_wp2_with (at_builtin; refine Kd.R_append kRow (w0 := w) w.heap.size rfl (.tmp 83) (.tmp 85) 22 37 (.slice none 0 0) 24 rfl Try.underlying22 info37 rfl (by decide) (by decide) (W := wz) v8 (turnF K bf (F.drop (kq + 1))) dm [.slice A9 dm.length c9] (fun _ => True) (fun k => some k ≠ v8.ownBlock) rfl rfl ⟨_, rfl, int_apart HLL.out HFF.out⟩ (fun _ hk => ⟨trivial, hk⟩) (fun _ _ => trivial) HFF.out HBL.out HBL.out.size ?aL ?_; (case aL => have := HLE.out; have := HNL.out; omega); intro v1 w1 T1 B1 G1 A1; have HK0 : Aside0 (OneM w v1 (turnF K bf (F.drop kq)) w1) := ⟨⟨B1, by rw [turnF_drop bf HG.out, HDM.out]; exact T1⟩⟩; clear T1 B1 G1 A1)
              go_roundg kq
              case measure => omega
              case rel => exact ⟨v1, _, rfl, rfl, by omega, by omega, HK0⟩
        · obtain rfl : gk = 0 := by omega
          obtain ⟨A8, c8, rfl⟩ := Kd.R_slice HM.out.F
          have hok : ∀ d ∈ turnF K bf (F.drop 0), ∀ x ∈ d, okL K x := turnF_ok HF.out
          have hcn : cnt K F [] = cnt K (turnF K bf (F.drop 0)) [] := turn_cnt HF.out
          have hll : (turnF K bf (F.drop 0)).length = nF := by unfold turnF; rw [List.length_reverse, List.length_map, List.drop_zero, HNF.out]
          have hrow : ∀ d ∈ turnF K bf (F.drop 0), d.length < 17592186044416 := fun d hd => by
            unfold turnF at hd
            obtain ⟨e, he, rfl⟩ := List.mem_map.1 (List.mem_reverse.1 hd)
            rw [List.length_map]
            exact HI.out.rows e he
          have hlen : (turnF K bf (F.drop 0)).length ≤ 5864062014804 := by rw [hll]; exact HNL.out
          have HIN := Aside0.mk (In.own (N := K) HM.out.F (by have := HKK.out; omega) hok hlen hrow).2
          have HB := Aside0.mk HM.out.below
          rw [hll]
          obtain ⟨G, hG⟩ : ∃ G, turnF K bf (F.drop 0) = G := ⟨_, rfl⟩
          rw [hG] at hok hcn HIN hll
          obtain ⟨q, hq⟩ : ∃ q, cnt K F [] = q := ⟨_, rfl⟩
          rw [hq] at hcn
          have HMF : mayB (K : Int) F = true := HM0.out
          have HMG : mayB (K : Int) G = true := may_of (by have := HKK.out; omega) hok
          have HS1 : Aside0 (∀ W, Below w.heap.size w W → Calls Try.prog 12 #[.int .i64 (K : Int), .slice A nF c, .int .i64 1099511627776] W (SolveP W (K : Int) F 1099511627776)) := ⟨fun W hW => by
            have := solve12 (HI.out.below hW) (K : Int) 1099511627776
            rwa [HNF.out] at this⟩
          have HS2 : Aside0 (∀ W, Below wr.heap.size wr W → Calls Try.prog 12 #[.int .i64 (K : Int), .slice A8 nF c8, .int .i64 1099511627776] W (SolveP W (K : Int) G 1099511627776)) := ⟨fun W hW => by
            have := solve12 (HIN.out.below hW) (K : Int) 1099511627776
            rwa [hll] at this⟩
          obtain ⟨X, hX⟩ : ∃ X, minI (q : Int) 1048576 = X := ⟨_, rfl⟩
          have HC1 : Aside0 (∀ W, Below w.heap.size w W → Calls Try.prog 16 #[.int .i64 (K : Int), .slice A nF c, .int .i64 1048576] W fun e w' => e = .returned (.tuple #[.int .i64 X, .int .i64 0]) ∧ Below W.heap.size W w') := ⟨fun W hW => by
            have := count16 (HI.out.below hW) (K : Int) 1048576 (by decide)
            have e : countV (K : Int) F 1048576 = (X, 0) := by
              unfold countV
              rw [if_pos ⟨HMF, by decide, by have := HKK.out; omega⟩, Int.toNat_natCast, hq, hX]
            rw [e, HNF.out] at this
            exact this⟩
          have HC2 : Aside0 (∀ W, Below wr.heap.size wr W → Calls Try.prog 16 #[.int .i64 (K : Int), .slice A8 nF c8, .int .i64 1048576] W fun e w' => e = .returned (.tuple #[.int .i64 X, .int .i64 0]) ∧ Below W.heap.size W w') := ⟨fun W hW => by
            have := count16 (HIN.out.below hW) (K : Int) 1048576 (by decide)
            have e : countV (K : Int) G 1048576 = (X, 0) := by
              unfold countV
              rw [if_pos ⟨HMG, by decide, by have := HKK.out; omega⟩, Int.toNat_natCast, ← hcn, hX]
            rw [e, hll] at this
            exact this⟩
          have HR1 : Aside0 (∀ r a code, SolveR (K : Int) F 1099511627776 r a code → code = 0 ∧ ((r = 1 ∧ 0 < q) ∨ (r = 2 ∧ q = 0))) := ⟨fun r a code h => by
            obtain ⟨h0, h | h⟩ := h.full HMF
            · exact ⟨h0, .inl ⟨h.1, by rw [← hq]; exact (sat_cnt HF.out).1 ⟨_, h.2.2⟩⟩⟩
            · exact ⟨h0, .inr ⟨h.1, by rw [← hq]; exact cnt_none fun s hs _ => by rw [h.2.2 s] at hs; cases hs⟩⟩⟩
          have HR2 : Aside0 (∀ r a code, SolveR (K : Int) G 1099511627776 r a code → code = 0 ∧ ((r = 1 ∧ 0 < q ∧ a.length = K ∧ satF (bitsOf a) G = true) ∨ (r = 2 ∧ q = 0 ∧ a = []))) := ⟨fun r a code h => by
            obtain ⟨h0, h | h⟩ := h.full HMG
            · exact ⟨h0, .inl ⟨h.1, by rw [hcn]; exact (sat_cnt hok).1 ⟨_, h.2.2⟩, h.2.1, h.2.2⟩⟩
            · exact ⟨h0, .inr ⟨h.1, (by rw [hcn]; exact cnt_none fun s hs _ => (by rw [h.2.2 s] at hs; cases hs)), h.2.1⟩⟩⟩
          have HEV : Aside0 (∀ (W : World) (v : Value) (a : List Bool) (base : Nat) (ok : Nat → Prop), Below wr.heap.size wr W → Kd.R Kd.bool 4 W base ok v a → a.length = K → satF (bitsOf a) G = true → Calls Try.prog 15 #[.slice A8 nF c8, v] W fun e w' => e = .returned (.bool true) ∧ Below W.heap.size W w') := ⟨fun W v a base ok hb hR hl hs => by
            have := eval15 (HIN.out.below hb) (N := K) (by have := HKK.out; omega) hok hR (by have := HKK.out; omega)
            rwa [hs, hll] at this⟩
          have hX0 : 0 < q → decide (0 < X) = true := fun h => decide_eq_true (by rw [← hX]; unfold minI; split <;> omega)
          have hX1 : q = 0 → decide (0 < X) = false := fun h => decide_eq_false (by rw [← hX]; unfold minI; split <;> omega)
          have HX := Aside0.mk (And.intro hX0 hX1)
          clear HM hok hcn hll hrow hlen hG hq hX HMF HMG hX0 hX1 HIN
          go_upto_region 21 with (go_at_call 12; refine (HS1.out _ HB.out).mono ?_; rintro e w4 ⟨r1, v1, a1, code1, rfl, hR1, hb4, hS1⟩; have HB4 := Aside0.mk hb4; obtain ⟨Av1, cv1, rfl⟩ := Kd.R_slice hR1; have HSS1 := Aside0.mk (HR1.out _ _ _ hS1); clear hb4 hS1 hR1)
          go_upto_region 22 with (go_at_call 12; refine (HS2.out _ HB4.out).mono ?_; rintro e w5 ⟨r2, v2, a2, code2, rfl, hR2, hb5, hS2⟩; have HRR := Aside0.mk hR2; have HB5 := Aside0.mk (HB4.out.trans (hb5.mono HB4.out.size)); obtain ⟨Av2, cv2, rfl⟩ := Kd.R_slice hR2; have HSS2 := Aside0.mk (HR2.out _ _ _ hS2); have H5 := Aside0.mk (Below.refl w5.heap.size w5); clear hb5 hS2 hR2)
          go_upto_region 23 with (go_at_call 16; refine (HC1.out _ (HB.out.trans (HB5.out.mono HB.out.size))).mono ?_; rintro e w6 ⟨rfl, hb6⟩; have H6 := Aside0.mk hb6; have HB6 := Aside0.mk (HB5.out.trans (hb6.mono HB5.out.size)); clear hb6)
          go_upto_region 24 with (go_at_call 16; refine (HC2.out _ HB6.out).mono ?_; rintro e w7 ⟨rfl, hb7⟩; have H7 := Aside0.mk (H6.out.trans (hb7.mono H6.out.size)); have HB7 := Aside0.mk (HB6.out.trans (hb7.mono HB6.out.size)); clear hb7)
          obtain ⟨rfl, h1⟩ := HSS1.out
          obtain ⟨rfl, h2⟩ := HSS2.out
          rcases h1 with ⟨rfl, h1⟩ | ⟨rfl, h1⟩
          · rcases h2 with ⟨rfl, _, hl, hs⟩ | ⟨_, h2, _⟩
            · have hX0 := HX.out.1 h1
              have HE := Aside0.mk (HEV.out w7 _ a2 _ _ HB7.out (Kd.R_below HRR.out H7.out) hl hs)
              clear h1 hl hs HX HEV HSS1 HSS2
              go_wp2_with (go_at_call 15; refine HE.out.mono ?_; rintro e w8 ⟨rfl, hb8⟩; have HB8 := Aside0.mk hb8; clear hb8)
              go_ret
              exact ⟨rfl, HB.out.trans ((HB7.out.trans (HB8.out.mono HB7.out.size)).mono HB.out.size)⟩
            · omega
          · rcases h2 with ⟨_, h2, _⟩ | ⟨rfl, h2, rfl⟩
            · omega
            · have hX0 := HX.out.2 h1
              clear h1 h2 HX HEV HSS1 HSS2
              go_wp2_with fail
              go_ret
              exact ⟨rfl, HB.out.trans (HB7.out.mono HB.out.size)⟩
end Go.Proofs.Ytnhpfdnhnocgjaa.S
