/- DpllKnown: walked by hand. -/
import Derived.Test.YtnhpfdnhnocgjaaHeads
import Derived.Test.YtnhpfdnhnocgjaaHpZ
namespace Go.Proofs.Ytnhpfdnhnocgjaa.S
open Go.RowKit Go.Proofs.Ytnhpfdnhnocgjaa.D Go.Proofs.Ytnhpfdnhnocgjaa.Lem Go.Proofs.YtnhpfdnhnocgjaaW.PrintWords Go.Proofs.YtnhpfdnhnocgjaaW.PrintLast Go.Proofs.YtnhpfdnhnocgjaaW.PrintMore
set_option linter.unusedVariables false
set_option linter.unusedSimpArgs false
attribute [local go_sem] max2_int min2_int max_two min_two
theorem in_nil (w : World) : In w none 0 [] := ⟨⟨rfl, Nat.zero_le _, fun h => absurd h (Nat.lt_irrefl _)⟩, Nat.le_refl _, ⟨Nat.zero_le _, fun c hc => nomatch hc⟩, Nat.zero_le _, fun d hd => nomatch hd⟩
theorem known_a (w : World) : Calls Try.prog 12 #[.int .i64 3, .slice none 0 0, .int .i64 0] w fun e w' => ∃ A c, e = .returned (.tuple #[.int .i64 1, .slice A 3 c, .int .i64 0]) ∧ Below w.heap.size w w' := by
  refine (solve12 (in_nil w) 3 0).mono ?_
  rintro e w' ⟨r, v, a, code, rfl, hR, hb, hS⟩
  obtain ⟨A, c, rfl⟩ := Kd.R_slice hR
  rcases hS with ⟨h, _⟩ | ⟨_, _, hc, h | h | h⟩
  · exact absurd ⟨by decide, by decide⟩ h
  · obtain ⟨rfl, hl, _⟩ := h
    subst hc
    exact ⟨A, c, by rw [hl]; rfl, hb⟩
  · have := h.2.2 fun _ => true
    exact absurd this (by decide)
  · exact absurd rfl h.2.2.2.2
theorem known_b (w : World) : Calls Try.prog 12 #[.int .i64 0, .slice (some ⟨w.heap.size + 1, 0, none⟩) 1 1, .int .i64 0] ((w.alloc (.cells #[] 3)).alloc (.cells #[.slice (some ⟨w.heap.size, 0, none⟩) 0 0] 37)) fun e w' => ∃ A c, e = .returned (.tuple #[.int .i64 2, .slice A 0 c, .int .i64 0]) ∧ Below w.heap.size w w' := by
  have hin := in_one (W := w.alloc (.cells #[] 3)) (A := some ⟨w.heap.size, 0, none⟩) (c := 0) (L := []) ⟨rfl, Nat.zero_le _, fun h => absurd h (Nat.lt_irrefl _)⟩ (Nat.le_refl _) (fun v hv => nomatch hv) (by decide)
  rw [size1] at hin
  refine (solve12 hin 0 0).mono ?_
  rintro e w' ⟨r, v, a, code, rfl, hR, hb, hS⟩
  obtain ⟨A, c, rfl⟩ := Kd.R_slice hR
  have h0 : Below w.heap.size w ((w.alloc (.cells #[] 3)).alloc (.cells #[.slice (some ⟨w.heap.size, 0, none⟩) 0 0] 37)) := by repeat (first | exact Below.refl _ _ | apply below_alloc)
  rcases hS with ⟨h, _⟩ | ⟨_, _, hc, h | h | h⟩
  · exact absurd ⟨by decide, by decide⟩ h
  · exact absurd h.2.2 (by rw [show satF (bitsOf a) [[]] = false from rfl]; decide)
  · obtain ⟨rfl, rfl, _⟩ := h
    subst hc
    exact ⟨A, c, rfl, h0.trans (hb.mono h0.size)⟩
  · exact absurd h.2.2.2.1 (by decide)
theorem known_c (w : World) : Calls Try.prog 12 #[.int .i64 1, .slice (some ⟨w.heap.size + 1, 0, none⟩) 1 1, .int .i64 5] ((w.alloc (.cells #[.int .i64 2] 3)).alloc (.cells #[.slice (some ⟨w.heap.size, 0, none⟩) 1 1] 37)) fun e w' => ∃ A c, e = .returned (.tuple #[.int .i64 0, .slice A 0 c, .int .i64 1]) ∧ Below w.heap.size w w' := by
  have hb0 := blk_new w (.cells #[.int .i64 2] 3)
  have hin := in_one (W := w.alloc (.cells #[.int .i64 2] 3)) (A := some ⟨w.heap.size, 0, none⟩) (c := 1) (L := [2]) (C_ints [2] (by decide) hb0) (Nat.le_refl _) (fun v hv => by obtain rfl := List.mem_singleton.1 hv; unfold W64; omega) (by decide)
  rw [size1] at hin
  refine (solve12 hin 1 5).mono ?_
  rintro e w' ⟨r, v, a, code, rfl, hR, hb, hS⟩
  obtain ⟨A, c, rfl⟩ := Kd.R_slice hR
  have h0 : Below w.heap.size w ((w.alloc (.cells #[.int .i64 2] 3)).alloc (.cells #[.slice (some ⟨w.heap.size, 0, none⟩) 1 1] 37)) := by repeat (first | exact Below.refl _ _ | apply below_alloc)
  rcases hS with ⟨_, h1, h2, h3⟩ | ⟨h, _⟩
  · subst h1 h2 h3
    exact ⟨A, c, rfl, h0.trans (hb.mono h0.size)⟩
  · exact absurd h (by decide)
theorem known_d (w : World) : Calls Try.prog 12 #[.int .i64 1, .slice none 0 0, .int .i64 (-1)] w fun e w' => ∃ A c, e = .returned (.tuple #[.int .i64 0, .slice A 0 c, .int .i64 1]) ∧ Below w.heap.size w w' := by
  refine (solve12 (in_nil w) 1 (-1)).mono ?_
  rintro e w' ⟨r, v, a, code, rfl, hR, hb, hS⟩
  obtain ⟨A, c, rfl⟩ := Kd.R_slice hR
  rcases hS with ⟨_, h1, h2, h3⟩ | ⟨_, h, _⟩
  · subst h1 h2 h3
    exact ⟨A, c, rfl, hb⟩
  · exact absurd h (by decide)
theorem known_n (w : World) (n m : Int) (hm : m ≤ 9223372036854775807) (r s : Int) (h : countV n [] m = (r, s)) : Calls Try.prog 16 #[.int .i64 n, .slice none 0 0, .int .i64 m] w fun e w' => e = .returned (.tuple #[.int .i64 r, .int .i64 s]) ∧ Below w.heap.size w w' := by
  have := count16 (in_nil w) n m hm
  rw [h] at this
  exact this
theorem cnt_free (n : Nat) : cnt n [] [] = 2 ^ n := by
  rw [cnt_all fun s _ => rfl, cntE_eq n [] List.nodup_nil (fun x hx => nomatch hx)]
  rfl
theorem cv1 : countV 25 [] 5 = (0, 1) := by unfold countV; rw [if_neg (by omega)]
theorem cv2 : countV 2 [] (-1) = (0, 1) := by unfold countV; rw [if_neg (by omega)]
theorem cv3 : countV 24 [] 5 = (5, 0) := by
  unfold countV
  rw [if_pos ⟨by decide, by omega, by omega⟩, show (24 : Int).toNat = 24 from rfl, cnt_free]
  decide
theorem cv4 : countV 0 [] 5 = (1, 0) := by
  unfold countV
  rw [if_pos ⟨by decide, by omega, by omega⟩, show (0 : Int).toNat = 0 from rfl, cnt_free]
  decide
set_option maxRecDepth 100000 in
set_option maxHeartbeats 1000000 in
theorem known5 (w : World) : Calls Try.prog 5 #[] w fun e w' => e = .returned (.bool true) ∧ Below w.heap.size w w' := by
  go_enter Try.func5, Try.ntmps5
  go_upto_region 3 with (go_at_call 10; refine (awake10 _).mono ?_; rintro e w1 ⟨rfl, hb1⟩; have HB1 := Aside0.mk hb1; clear hb1)
  go_upto_region 4 with (go_at_call 12; refine (known_a _).mono ?_; rintro e w2 ⟨A1, k1, rfl, hb⟩; have HB2 := Aside0.mk (HB1.out.trans (hb.mono HB1.out.size)); clear hb)
  go_upto_region 5 with (go_at_call 12; refine (known_b _).mono ?_; rintro e w3 ⟨A2, k2, rfl, hb⟩; have HB3 := Aside0.mk (HB2.out.trans (hb.mono HB2.out.size)); clear hb)
  go_upto_region 6 with (go_at_call 12; refine (known_c _).mono ?_; rintro e w4 ⟨A3, k3, rfl, hb⟩; have HB4 := Aside0.mk (HB3.out.trans (hb.mono HB3.out.size)); clear hb)
  go_upto_region 7 with (go_at_call 12; refine (known_d _).mono ?_; rintro e w5 ⟨A4, k4, rfl, hb⟩; have HB5 := Aside0.mk (HB4.out.trans (hb.mono HB4.out.size)); clear hb)
  go_upto_region 8 with (go_at_call 16; refine (known_n _ 25 5 (by decide) _ _ cv1).mono ?_; rintro e w6 ⟨rfl, hb⟩; have HB6 := Aside0.mk (HB5.out.trans (hb.mono HB5.out.size)); clear hb)
  go_upto_region 9 with (go_at_call 16; refine (known_n _ 2 (-1) (by decide) _ _ cv2).mono ?_; rintro e w7 ⟨rfl, hb⟩; have HB7 := Aside0.mk (HB6.out.trans (hb.mono HB6.out.size)); clear hb)
  go_upto_region 10 with (go_at_call 16; refine (known_n _ 24 5 (by decide) _ _ cv3).mono ?_; rintro e w8 ⟨rfl, hb⟩; have HB8 := Aside0.mk (HB7.out.trans (hb.mono HB7.out.size)); clear hb)
  go_upto_region 11 with (go_at_call 16; refine (known_n _ 0 5 (by decide) _ _ cv4).mono ?_; rintro e w9 ⟨rfl, hb⟩; have HB9 := Aside0.mk (HB8.out.trans (hb.mono HB8.out.size)); clear hb)
  have H0 : Aside0 (PigF w (.slice none 0 0) (pig 3 0) w9) := ⟨⟨HB9.out, Kd.R_nil _ _ _ _ _⟩⟩
  clear HB1 HB2 HB3 HB4 HB5 HB6 HB7 HB8 HB9
  go_wp2_with fail
  go_loopg [21, 22] 4 (fun kq v21 v22 wr => ∃ (u : Value) (i : Nat), u = v21 ∧ v22 = .int .i64 (i : Int) ∧ i + kq = 4 ∧ Aside0 (PigF w u (pig 3 i) wr))
  case atStart => exact ⟨_, 0, rfl, rfl, by omega, H0⟩
  case round =>
    clear H0
    obtain ⟨v7, i, rfl, rfl, hi, HM⟩ := hrel
    by_cases hlt : (i : Int) < 4
    · obtain ⟨kq, rfl⟩ : ∃ k, gk = k + 1 := ⟨gk - 1, by omega⟩
      have HI4 : Aside0 (i < 4) := ⟨by omega⟩
      obtain ⟨P0, hP0⟩ : ∃ P0 : Int, P0 = ((i * 3 : Nat) : Int) := ⟨_, rfl⟩
      have HP : Aside0 (P0 = ((i * 3 : Nat) : Int) ∧ P0 ≤ 20) := ⟨hP0, by omega⟩
      have q1 : IntKind.i64.wrap (3 * (i : Int)) = P0 := by rw [IntWalk.i64_in _ (by omega), hP0]; omega
      have HS3 : Aside0 (someH 3 i 3 = [P0 + 1, P0 + 2, P0 + 3]) := ⟨by rw [hP0]; unfold someH hole; simp [List.range_succ]; omega⟩
      clear hP0
      obtain ⟨a1, ha1⟩ : ∃ x, P0 + 1 = x := ⟨_, rfl⟩
      obtain ⟨a2, ha2⟩ : ∃ x, P0 + 2 = x := ⟨_, rfl⟩
      obtain ⟨a3, ha3⟩ : ∃ x, P0 + 3 = x := ⟨_, rfl⟩
      have r1 : IntKind.i64.wrap (P0 + 1) = a1 := by rw [← ha1]; exact IntWalk.i64_in _ (by have := HP.out; omega)
      have r2 : IntKind.i64.wrap (P0 + 2) = a2 := by rw [← ha2]; exact IntWalk.i64_in _ (by have := HP.out; omega)
      have r3 : IntKind.i64.wrap (P0 + 3) = a3 := by rw [← ha3]; exact IntWalk.i64_in _ (by have := HP.out; omega)
      rw [ha1, ha2, ha3] at HS3
      clear ha1 ha2 ha3
      go_wp2_with (at_builtin; refine Kd.R_append kRow (w0 := w) w.heap.size rfl (.tmp 74) (.tmp 85) 22 37 (.slice none 0 0) 24 rfl Try.underlying22 info37 rfl (by decide) (by decide) (W := wr.alloc (.cells #[.int .i64 a1, .int .i64 a2, .int .i64 a3] 3)) v7 (pig 3 i) [a1, a2, a3] [.slice (some ⟨wr.heap.size, 0, none⟩) 3 3] (fun _ => True) (fun k => wr.heap.size ≤ k) rfl ?aX ⟨_, rfl, lit_own wr [a1, a2, a3] (by simp) HM.out.below.size⟩ (new_apart HM.out.F) (fun _ _ => trivial) (Kd.R_alloc HM.out.F _) (below_alloc HM.out.below _) (by rw [size1]; have := HM.out.below.size; omega) ?aL ?_; (case aX => rw [size1]; rfl); (case aL => have := pig_len (m := 3) (by omega) i (by have := HI4.out; omega); have := HI4.out; omega); intro v1 w1 T1 B1 G1 _; have HK0 : Aside0 (PigF w v1 (pig 3 i ++ [someH 3 i 3] ++ rowsH 3 i 0) w1) := ⟨⟨B1, by show kRow.R _ _ _ _ _ (_ ++ []); rw [List.append_nil, HS3.out]; exact T1⟩⟩; clear T1 B1 G1)
      clear r1 r2 r3 HS3 HM
      go_loopg [21, 23] i (fun kr v21 v23 wr => ∃ (u : Value) (k : Nat), u = v21 ∧ v23 = .int .i64 (k : Int) ∧ k + kr = i ∧ Aside0 (PigF w u (pig 3 i ++ [someH 3 i 3] ++ rowsH 3 i k) wr))
      case atStart => exact ⟨_, 0, rfl, rfl, by omega, HK0⟩
      case round =>
        clear HK0
        obtain ⟨v7, k, rfl, rfl, hk, HM⟩ := hrel
        rename World => wz
        by_cases hlk : (k : Int) < (i : Int)
        · obtain ⟨kr, rfl⟩ : ∃ k, gk = k + 1 := ⟨gk - 1, by omega⟩
          have hw3 : IntKind.i64.wrap ((k : Int) + 1) = ((k + 1 : Nat) : Int) := by have := HI4.out; rw [IntWalk.i64_in _ (by omega)]; rfl
          obtain ⟨P2, hP2⟩ : ∃ P2 : Int, P2 = ((k * 3 : Nat) : Int) := ⟨_, rfl⟩
          have HP2 : Aside0 (P2 = ((k * 3 : Nat) : Int) ∧ P2 ≤ 20) := ⟨hP2, by have := HI4.out; omega⟩
          have q3 : IntKind.i64.wrap (3 * (k : Int)) = P2 := by rw [IntWalk.i64_in _ (by have := HI4.out; omega), hP2]; omega
          clear hP2
          have H2 : Aside0 (PigF w v7 (pig 3 i ++ [someH 3 i 3] ++ rowsH 3 i k ++ rowH 3 i k 0) wz) := ⟨⟨HM.out.below, by show kRow.R _ _ _ _ _ (_ ++ []); rw [List.append_nil]; exact HM.out.F⟩⟩
          go_wp2_with fail
          go_loopg [21, 24] 3 (fun ks v21 v24 wr => ∃ (u : Value) (T : Int) (j : Nat), u = v21 ∧ v24 = .int .i64 T ∧ j + ks = 3 ∧ Aside0 (T = (j : Int) + 1) ∧ Aside0 (PigF w u (pig 3 i ++ [someH 3 i 3] ++ rowsH 3 i k ++ rowH 3 i k j) wr))
          case atStart => exact ⟨_, 1, 0, rfl, rfl, by omega, ⟨by decide⟩, H2⟩
          case round =>
            clear H2 HM
            obtain ⟨v7, T, j, rfl, rfl, hj, HT, HM⟩ := hrel
            rename World => wy
            by_cases hT : T ≤ 3
            · obtain ⟨ks, rfl⟩ : ∃ k, gk = k + 1 := ⟨gk - 1, by have := HT.out; omega⟩
              obtain ⟨T2, hT2⟩ : ∃ T2 : Int, T + 1 = T2 := ⟨_, rfl⟩
              have hw4 : IntKind.i64.wrap (T + 1) = T2 := by rw [hT2]; exact IntWalk.i64_in _ (by have := HT.out; omega)
              have HT2 : Aside0 (T2 = ((j + 1 : Nat) : Int) + 1) := ⟨by have := HT.out; omega⟩
              have e1 : P0 + T = hole 3 i j := by have := HP.out; have := HT.out; unfold hole; omega
              have e2 : P2 + T = hole 3 k j := by have := HP2.out; have := HT.out; unfold hole; omega
              have HPR : Aside0 (pairH 3 i k j = [-(hole 3 i j), -(hole 3 k j)]) := ⟨rfl⟩
              rw [← e1, ← e2] at HPR
              obtain ⟨h1, hh1⟩ : ∃ x, P0 + T = x := ⟨_, rfl⟩
              obtain ⟨h2, hh2⟩ : ∃ x, P2 + T = x := ⟨_, rfl⟩
              have r1 : IntKind.i64.wrap (P0 + T) = h1 := by rw [hh1]; exact IntWalk.i64_in _ (by have := HP.out; have := HT.out; omega)
              have r2 : IntKind.i64.wrap (P2 + T) = h2 := by rw [hh2]; exact IntWalk.i64_in _ (by have := HP2.out; have := HT.out; omega)
              obtain ⟨n1, hn1⟩ : ∃ x, -h1 = x := ⟨_, rfl⟩
              obtain ⟨n2, hn2⟩ : ∃ x, -h2 = x := ⟨_, rfl⟩
              have r3 : IntKind.i64.wrap (-h1) = n1 := by rw [hn1]; exact IntWalk.i64_in _ (by have := HP.out; have := HT.out; omega)
              have r4 : IntKind.i64.wrap (-h2) = n2 := by rw [hn2]; exact IntWalk.i64_in _ (by have := HP2.out; have := HT.out; omega)
              rw [hh1, hh2, hn1, hn2] at HPR
              have hlen : (pig 3 i ++ [someH 3 i 3] ++ rowsH 3 i k ++ rowH 3 i k j).length + 1 ≤ 1000 := by
                have := HI4.out
                have := pig_len (m := 3) (by omega) i (by omega)
                rw [List.length_append, List.length_append, List.length_append, List.length_singleton, rowsH_len, rowH_len]
                omega
              have HLE := Aside0.mk hlen
              clear hT2 e1 e2 hh1 hh2 hn1 hn2 hlen
              go_wp2_with (at_builtin; refine Kd.R_append kRow (w0 := w) w.heap.size rfl (.tmp 96) (.tmp 108) 22 37 (.slice none 0 0) 24 rfl Try.underlying22 info37 rfl (by decide) (by decide) (W := wy.alloc (.cells #[.int .i64 n1, .int .i64 n2] 3)) v7 (pig 3 i ++ [someH 3 i 3] ++ rowsH 3 i k ++ rowH 3 i k j) [n1, n2] [.slice (some ⟨wy.heap.size, 0, none⟩) 2 2] (fun _ => True) (fun k => wy.heap.size ≤ k) rfl ?aX ⟨_, rfl, lit_own wy [n1, n2] (by simp) HM.out.below.size⟩ (new_apart HM.out.F) (fun _ _ => trivial) (Kd.R_alloc HM.out.F _) (below_alloc HM.out.below _) (by rw [size1]; have := HM.out.below.size; omega) ?aL ?_; (case aX => rw [size1]; rfl); (case aL => have := HLE.out; omega); intro v1 w1 T1 B1 G1 _; have HK1 : Aside0 (PigF w v1 (pig 3 i ++ [someH 3 i 3] ++ rowsH 3 i k ++ rowH 3 i k (j + 1)) w1) := ⟨⟨B1, by rw [rowH_succ, HPR.out, ← List.append_assoc]; exact T1⟩⟩; clear T1 B1 G1)
              go_roundg ks
              case measure => omega
              case rel => exact ⟨v1, T2, j + 1, rfl, rfl, by omega, HT2, HK1⟩
            · obtain rfl : j = 3 := by have := HT.out; omega
              go_wp2_with fail
              go_roundg kr
              case measure => omega
              case rel => exact ⟨v7, k + 1, rfl, rfl, by omega, ⟨⟨HM.out.below, by rw [rowsH_succ, ← List.append_assoc]; exact HM.out.F⟩⟩⟩
        · obtain rfl : k = i := by omega
          go_wp2_with fail
          go_roundg kq
          case measure => omega
          case rel => exact ⟨v7, k + 1, rfl, rfl, by omega, ⟨⟨HM.out.below, by rw [pig_succ]; exact HM.out.F⟩⟩⟩
    · obtain rfl : i = 4 := by omega
      obtain ⟨A7, m7, c7, rfl⟩ := R_sl HM.out.F
      have hrow : ∀ d ∈ pig 3 4, d.length < 17592186044416 := fun d hd => by
        obtain ⟨a, _, h | ⟨b, _, c, _, h⟩⟩ := mem_pig.1 hd
        · rw [h, someH_len]; omega
        · rw [h]; simp [pairH]
      obtain ⟨rfl, hin⟩ := In.own (N := 4 * 3) HM.out.F (by omega) pig_ok (by have := pig_len (m := 3) (by omega) 4 (by omega); omega) hrow
      have HS : Aside0 (Calls Try.prog 12 #[.int .i64 12, .slice A7 (pig 3 4).length c7, .int .i64 4096] wr fun e w' => ∃ A c, e = .returned (.tuple #[.int .i64 2, .slice A 0 c, .int .i64 0]) ∧ Below wr.heap.size wr w') := ⟨by
        refine (solve12 hin 12 4096).mono ?_
        rintro e w' ⟨r, v, a, code, rfl, hR, hb, hS⟩
        obtain ⟨A, c, rfl⟩ := Kd.R_slice hR
        rcases hS with ⟨h, _⟩ | ⟨_, _, hc, h | h | h⟩
        · exact absurd ⟨(may_of (N := 4 * 3) (by omega) pig_ok : mayB ((4 * 3 : Nat) : Int) (pig 3 4) = true), by decide⟩ h
        · exact absurd (pig_need h.2.2) (by decide)
        · obtain ⟨rfl, rfl, _⟩ := h
          subst hc
          exact ⟨A, c, rfl, hb⟩
        · exact absurd h.2.2.2.1 (by decide)⟩
      have HB := Aside0.mk HM.out.below
      obtain ⟨L, hL⟩ : ∃ L, (pig 3 4).length = L := ⟨_, rfl⟩
      rw [hL] at HS ⊢
      clear hL hin hrow HM
      go_wp2_with (go_at_call 12; refine HS.out.mono ?_; rintro e w10 ⟨A5, k5, rfl, hb⟩; have HB10 := Aside0.mk (HB.out.trans (hb.mono HB.out.size)); clear hb)
      go_ret
      exact ⟨rfl, HB10.out⟩
end Go.Proofs.Ytnhpfdnhnocgjaa.S
