/- DpllPigeons: walked by hand. -/
import Derived.Test.YtnhpfdnhnocgjaaHpV
namespace Go.Proofs.Ytnhpfdnhnocgjaa.S
open Go.RowKit Go.Proofs.Ytnhpfdnhnocgjaa.D Go.Proofs.Ytnhpfdnhnocgjaa.Lem Go.Proofs.YtnhpfdnhnocgjaaW.PrintWords Go.Proofs.YtnhpfdnhnocgjaaW.PrintLast Go.Proofs.YtnhpfdnhnocgjaaW.PrintMore
set_option linter.unusedVariables false
set_option linter.unusedSimpArgs false
attribute [local go_sem] max2_int min2_int max_two min_two
/-- The formula so far, and a row that is being written. -/
structure PigM (w : World) (v7 v9 : Value) (F : List (List Int)) (L : List Int) (W : World) : Prop where
  below : Below w.heap.size w W
  F : kRow.R 37 W w.heap.size (fun k => some k ≠ v9.ownBlock) v7 F
  L : (Kd.int .i64).R 3 W w.heap.size (fun _ => True) v9 L
structure PigF (w : World) (v7 : Value) (F : List (List Int)) (W : World) : Prop where
  below : Below w.heap.size w W
  F : kRow.R 37 W w.heap.size (fun _ => True) v7 F
theorem sums {P0 : Int} {m i t : Nat} (h : P0 = ((i * m : Nat) : Int)) (h2 : P0 ≤ 20) (ht : t < 20) : IntKind.i64.wrap (P0 + (t : Int)) = P0 + (t : Int) ∧ IntKind.i64.wrap (P0 + (t : Int) + 1) = hole m i t := by
  have h0 : 0 ≤ P0 := by omega
  rw [IntWalk.i64_in _ (by omega), IntWalk.i64_in _ (by omega)]
  refine ⟨rfl, ?_⟩
  unfold hole
  omega
theorem hole_neg {P0 : Int} {m i t : Nat} (h : P0 = ((i * m : Nat) : Int)) (h2 : P0 ≤ 20) (ht : t < 20) : IntKind.i64.wrap (-(hole m i t)) = -(hole m i t) := IntWalk.i64_in _ (by unfold hole; omega)
set_option maxRecDepth 100000 in
set_option maxHeartbeats 1000000 in
theorem pigeons9 (w : World) (p h : Int) (hp0 : 0 ≤ p) (hp1 : p ≤ 255) (hh0 : 0 ≤ h) (hh1 : h ≤ 255) :
    Calls Try.prog 9 #[.int .u8 p, .int .u8 h] w fun e w' => e = .returned (.bool true) ∧ Below w.heap.size w w' := by
  have c1 : IntKind.i64.wrap p = p := IntWalk.i64_in _ (by omega)
  have c2 : IntKind.i64.wrap h = h := IntWalk.i64_in _ (by omega)
  obtain ⟨n, hn⟩ : ∃ n : Nat, 1 + p % 5 = (n : Int) := ⟨(1 + p % 5).toNat, by omega⟩
  obtain ⟨m, hm⟩ : ∃ m : Nat, 1 + h % 4 = (m : Int) := ⟨(1 + h % 4).toNat, by omega⟩
  have HN : Aside0 (1 ≤ n ∧ n ≤ 5 ∧ 1 ≤ m ∧ m ≤ 4) := ⟨by omega⟩
  go_enter Try.func9, Try.ntmps9
  go_upto_region 4 with (go_at_call 10; refine (awake10 _).mono ?_; rintro e w1 ⟨rfl, hb1⟩; have HB1 := Aside0.mk hb1; clear hb1)
  clear hn hm hp0 hp1 hh0 hh1 c1 c2
  have H0 : Aside0 (PigF w (.slice none 0 0) (pig m 0) w1) := ⟨⟨HB1.out, Kd.R_nil _ _ _ _ _⟩⟩
  clear HB1
  go_wp2_with fail
  go_loopg [7, 8] n (fun kq v7 v8 wr => ∃ (u7 : Value) (i : Nat), u7 = v7 ∧ v8 = .int .i64 (i : Int) ∧ i + kq = n ∧ Aside0 (PigF w u7 (pig m i) wr))
  case atStart => exact ⟨_, 0, rfl, rfl, by omega, H0⟩
  case round =>
    clear H0
    obtain ⟨v7, i, rfl, rfl, hi, HM⟩ := hrel
    by_cases hlt : (i : Int) < (n : Int)
    · obtain ⟨kq, rfl⟩ : ∃ k, gk = k + 1 := ⟨gk - 1, by omega⟩
      have hw : IntKind.i64.wrap ((i : Int) + 1) = ((i + 1 : Nat) : Int) := by have := HN.out; rw [IntWalk.i64_in _ (by omega)]; rfl
      obtain ⟨P0, hP0⟩ : ∃ P0 : Int, P0 = ((i * m : Nat) : Int) := ⟨_, rfl⟩
      have HP : Aside0 (P0 = ((i * m : Nat) : Int) ∧ P0 ≤ 20) := ⟨hP0, by have := HN.out; have : i * m ≤ 5 * 4 := Nat.mul_le_mul (by omega) (by omega); omega⟩
      have q1 : IntKind.i64.wrap ((i : Int) * (m : Int)) = P0 := by rw [IntWalk.i64_in _ (by have := HP.out; rw [← Int.natCast_mul]; omega), hP0]; push_cast; rfl
      have q2 : IntKind.i64.wrap ((m : Int) * (i : Int)) = P0 := by rw [Int.mul_comm]; exact q1
      clear hP0
      have H1 : Aside0 (PigM w v7 (.slice none 0 0) (pig m i) (someH m i 0) wr) := ⟨⟨HM.out.below, Kd.R_mono HM.out.F (fun k _ => by simp [Value.ownBlock]), Kd.R_nil _ _ _ _ _⟩⟩
      go_wp2_with fail
      go_loopg [9, 10] m (fun kr v9 v10 wr => ∃ (u9 : Value) (t : Nat), u9 = v9 ∧ v10 = .int .i64 (t : Int) ∧ t + kr = m ∧ Aside0 (PigM w v7 u9 (pig m i) (someH m i t) wr))
      case atStart => exact ⟨_, 0, rfl, rfl, by omega, H1⟩
      case round =>
        clear H1
        obtain ⟨v9, t, rfl, rfl, ht, HM1⟩ := hrel
        rename World => wz
        by_cases hlt2 : (t : Int) < (m : Int)
        · obtain ⟨kr, rfl⟩ : ∃ k, gk = k + 1 := ⟨gk - 1, by omega⟩
          have hw2 : IntKind.i64.wrap ((t : Int) + 1) = ((t + 1 : Nat) : Int) := by have := HN.out; rw [IntWalk.i64_in _ (by omega)]; rfl
          obtain ⟨q5, q6⟩ := sums HP.out.1 HP.out.2 (t := t) (by have := HN.out; omega)
          obtain ⟨Hh, hHh⟩ : ∃ x : Int, hole m i t = x := ⟨_, rfl⟩
          rw [hHh] at q6
          have HH := Aside0.mk hHh
          clear hHh
          go_wp2_with (at_builtin; refine Kd.R_append (Kd.int .i64) (w0 := w) w.heap.size rfl (.tmp 36) (.tmp 43) 37 3 (.int .i64 0) 8 rfl Try.underlying37 P.info3 rfl (by decide) (by decide) v9 (someH m i t) Hh [.int .i64 Hh] (fun _ => True) (fun _ => False) rfl rfl rfl (fun _ hk => hk.elim) (fun _ _ => trivial) HM1.out.L HM1.out.below HM1.out.below.size ?aL ?_; (case aL => rw [someH_len]; have := HN.out; omega); intro v1 w1 T1 B1 G1 A1; have HM2 : Aside0 (PigM w v7 v1 (pig m i) (someH m i (t + 1)) w1) := ⟨⟨B1, R_two HM1.out.F G1 A1, by rw [someH_succ, HH.out]; exact T1⟩⟩; clear T1 B1 G1 A1)
          go_roundg kr
          case measure => omega
          case rel => exact ⟨v1, t + 1, rfl, rfl, by omega, HM2⟩
        · obtain rfl : t = m := by omega
          have HFF : Aside0 (kRow.R 37 wz w.heap.size (fun _ => True) v7 (pig t i)) := ⟨Kd.R_mono HM1.out.F fun _ _ => trivial⟩
          obtain ⟨A9, c9, rfl⟩ := Kd.R_slice HM1.out.L
          go_wp2_with (at_builtin; refine Kd.R_append kRow (w0 := w) w.heap.size rfl (.tmp 45) (.tmp 47) 22 37 (.slice none 0 0) 24 rfl Try.underlying22 info37 rfl (by decide) (by decide) (W := wz) v7 (pig t i) (someH t i t) [.slice A9 (someH t i t).length c9] (fun _ => True) (fun k => some k ≠ v7.ownBlock) rfl rfl ⟨_, rfl, int_apart HM1.out.L HFF.out⟩ (fun _ hk => ⟨trivial, hk⟩) (fun _ _ => trivial) HFF.out HM1.out.below HM1.out.below.size ?aL ?_; (case aL => have h1 := HN.out; have := pig_len (m := t) (by omega) i (by omega); omega); intro v1 w1 T1 B1 G1 A1; have HK0 : Aside0 (PigF w v1 (pig t i ++ [someH t i t] ++ rowsH t i 0) w1) := ⟨⟨B1, by show kRow.R _ _ _ _ _ (_ ++ []); rw [List.append_nil]; exact T1⟩⟩; clear T1 B1 G1 A1)
          clear HM1 HFF HM
          go_loopg [7, 11] i (fun kr v7 v11 wr => ∃ (u7 : Value) (k : Nat), u7 = v7 ∧ v11 = .int .i64 (k : Int) ∧ k + kr = i ∧ Aside0 (PigF w u7 (pig t i ++ [someH t i t] ++ rowsH t i k) wr))
          case atStart => exact ⟨_, 0, rfl, rfl, by omega, HK0⟩
          case round =>
            clear HK0
            obtain ⟨v7, k, rfl, rfl, hk, HM⟩ := hrel
            rename World => wz
            by_cases hlk : (k : Int) < (i : Int)
            · obtain ⟨kr, rfl⟩ : ∃ k, gk = k + 1 := ⟨gk - 1, by omega⟩
              have hw3 : IntKind.i64.wrap ((k : Int) + 1) = ((k + 1 : Nat) : Int) := by have := HN.out; rw [IntWalk.i64_in _ (by omega)]; rfl
              obtain ⟨P2, hP2⟩ : ∃ P2 : Int, P2 = ((k * t : Nat) : Int) := ⟨_, rfl⟩
              have HP2 : Aside0 (P2 = ((k * t : Nat) : Int) ∧ P2 ≤ 20) := ⟨hP2, by have := HN.out; have : k * t ≤ 5 * 4 := Nat.mul_le_mul (by omega) (by omega); omega⟩
              have q3 : IntKind.i64.wrap ((k : Int) * (t : Int)) = P2 := by rw [IntWalk.i64_in _ (by have := HP2.out; rw [← Int.natCast_mul]; omega), hP2]; push_cast; rfl
              have q4 : IntKind.i64.wrap ((t : Int) * (k : Int)) = P2 := by rw [Int.mul_comm]; exact q3
              clear hP2
              have H2 : Aside0 (PigF w v7 (pig t i ++ [someH t i t] ++ rowsH t i k ++ rowH t i k 0) wz) := ⟨⟨HM.out.below, by show kRow.R _ _ _ _ _ (_ ++ []); rw [List.append_nil]; exact HM.out.F⟩⟩
              go_wp2_with fail
              go_loopg [7, 12] t (fun kr v7 v12 wr => ∃ (u7 : Value) (j : Nat), u7 = v7 ∧ v12 = .int .i64 (j : Int) ∧ j + kr = t ∧ Aside0 (PigF w u7 (pig t i ++ [someH t i t] ++ rowsH t i k ++ rowH t i k j) wr))
              case atStart => exact ⟨_, 0, rfl, rfl, by omega, H2⟩
              case round =>
                clear H2 HM
                obtain ⟨v7, j, rfl, rfl, hj, HM⟩ := hrel
                rename World => wy
                by_cases hlj : (j : Int) < (t : Int)
                · obtain ⟨ks, rfl⟩ : ∃ k, gk = k + 1 := ⟨gk - 1, by omega⟩
                  have hw4 : IntKind.i64.wrap ((j : Int) + 1) = ((j + 1 : Nat) : Int) := by have := HN.out; rw [IntWalk.i64_in _ (by omega)]; rfl
                  obtain ⟨r1, r2⟩ := sums HP.out.1 HP.out.2 (t := j) (by have := HN.out; omega)
                  obtain ⟨r3, r4⟩ := sums HP2.out.1 HP2.out.2 (t := j) (by have := HN.out; omega)
                  have r5 : IntKind.i64.wrap (-(hole t i j)) = -(hole t i j) := hole_neg HP.out.1 HP.out.2 (by have := HN.out; omega)
                  have r6 : IntKind.i64.wrap (-(hole t k j)) = -(hole t k j) := hole_neg HP2.out.1 HP2.out.2 (by have := HN.out; omega)
                  have HPR : Aside0 (pairH t i k j = [-(hole t i j), -(hole t k j)]) := ⟨rfl⟩
                  obtain ⟨h1, hh1⟩ : ∃ x, hole t i j = x := ⟨_, rfl⟩
                  obtain ⟨h2, hh2⟩ : ∃ x, hole t k j = x := ⟨_, rfl⟩
                  rw [hh1] at r2 r5 HPR
                  rw [hh2] at r4 r6 HPR
                  obtain ⟨n1, hn1⟩ : ∃ x, -h1 = x := ⟨_, rfl⟩
                  obtain ⟨n2, hn2⟩ : ∃ x, -h2 = x := ⟨_, rfl⟩
                  have s5 : IntKind.i64.wrap (-h1) = n1 := r5.trans hn1
                  have s6 : IntKind.i64.wrap (-h2) = n2 := r6.trans hn2
                  rw [hn1, hn2] at HPR
                  clear r5 r6 hh1 hh2 hn1 hn2
                  go_wp2_with (at_builtin; refine Kd.R_append kRow (w0 := w) w.heap.size rfl (.tmp 59) (.tmp 75) 22 37 (.slice none 0 0) 24 rfl Try.underlying22 info37 rfl (by decide) (by decide) (W := wy.alloc (.cells #[.int .i64 n1, .int .i64 n2] 3)) v7 (pig t i ++ [someH t i t] ++ rowsH t i k ++ rowH t i k j) [n1, n2] [.slice (some ⟨wy.heap.size, 0, none⟩) 2 2] (fun _ => True) (fun k => wy.heap.size ≤ k) rfl ?aX ⟨_, rfl, lit_own wy [n1, n2] (by simp) HM.out.below.size⟩ (new_apart HM.out.F) (fun _ _ => trivial) (Kd.R_alloc HM.out.F _) (below_alloc HM.out.below _) (by rw [size1]; have := HM.out.below.size; omega) ?aL ?_; (case aX => rw [size1]; rfl); (case aL => have h1 := HN.out; have := pig_len (m := t) (by omega) i (by omega); have := Nat.mul_le_mul (show k ≤ 5 by omega) (show t ≤ 4 by omega); simp only [List.length_append, List.length_singleton, rowsH_len, rowH_len]; omega); intro v1 w1 T1 B1 G1 A1; have HK1 : Aside0 (PigF w v1 (pig t i ++ [someH t i t] ++ rowsH t i k ++ rowH t i k (j + 1)) w1) := ⟨⟨B1, by rw [rowH_succ, HPR.out, ← List.append_assoc]; exact T1⟩⟩; clear T1 B1 G1 A1)
                  go_roundg ks
                  case measure => omega
                  case rel => exact ⟨v1, j + 1, rfl, rfl, by omega, HK1⟩
                · obtain rfl : j = t := by omega
                  go_wp2_with fail
                  go_roundg kr
                  case measure => omega
                  case rel => exact ⟨v7, k + 1, rfl, rfl, by omega, ⟨⟨HM.out.below, by rw [rowsH_succ, ← List.append_assoc]; exact HM.out.F⟩⟩⟩
            · obtain rfl : k = i := by omega
              go_wp2_with fail
              go_roundg kq
              case measure => omega
              case rel => exact ⟨v7, k + 1, rfl, rfl, by omega, ⟨⟨HM.out.below, by rw [pig_succ]; exact HM.out.F⟩⟩⟩
    · obtain rfl : i = n := by omega
      obtain ⟨A7, c7, rfl⟩ := Kd.R_slice HM.out.F
      have hnm : i * m ≤ 5 * 4 := by have := HN.out; exact Nat.mul_le_mul (by omega) (by omega)
      have hlen : (pig m i).length ≤ 21 * i := pig_len (by have := HN.out; omega) i (by have := HN.out; omega)
      have hrow : ∀ d ∈ pig m i, d.length < 17592186044416 := fun d hd => by
        have := HN.out
        obtain ⟨a, _, h | ⟨b, _, c, _, h⟩⟩ := mem_pig.1 hd
        · rw [h, someH_len]; omega
        · rw [h]; simp [pairH]
      have HIN := Aside0.mk (In.own (N := i * m) HM.out.F (by omega) pig_ok (by have := HN.out; omega) hrow).2
      have HMY : mayB ((i * m : Nat) : Int) (pig m i) = true := may_of (by omega) pig_ok
      have HSO : Aside0 (Calls Try.prog 12 #[.int .i64 ((i * m : Nat) : Int), .slice A7 (pig m i).length c7, .int .i64 1099511627776] wr (SolveP wr ((i * m : Nat) : Int) (pig m i) 1099511627776)) := ⟨solve12 HIN.out _ _⟩
      have HF : Aside0 (∀ r a code, SolveR ((i * m : Nat) : Int) (pig m i) 1099511627776 r a code → code = 0 ∧ ((r = 1 ∧ a.length = i * m ∧ satF (bitsOf a) (pig m i) = true ∧ decide (i ≤ m) = true) ∨ (r = 2 ∧ a = [] ∧ decide (i ≤ m) = false))) := ⟨fun r a code h => by
        obtain ⟨h0, h | h⟩ := h.full HMY
        · exact ⟨h0, .inl ⟨h.1, h.2.1, h.2.2, decide_eq_true (pig_need h.2.2)⟩⟩
        · refine ⟨h0, .inr ⟨h.1, h.2.1, decide_eq_false fun hle => ?_⟩⟩
          obtain ⟨s, hs⟩ := pig_have (m := m) (n := i) (by have := HN.out; omega) (by omega)
          rw [h.2.2 s] at hs
          cases hs⟩
      have HEV : Aside0 (∀ (W : World) (v : Value) (a : List Bool) (base : Nat) (ok : Nat → Prop), Below wr.heap.size wr W → Kd.R Kd.bool 4 W base ok v a → a.length = i * m → satF (bitsOf a) (pig m i) = true → Calls Try.prog 15 #[.slice A7 (pig m i).length c7, v] W fun e w' => e = .returned (.bool true) ∧ Below W.heap.size W w') := ⟨fun W v a base ok hb hR hl hs => by
        have := eval15 (HIN.out.below hb) (N := i * m) (by omega) pig_ok hR (by omega)
        rwa [hs] at this⟩
      have HB := Aside0.mk HM.out.below
      have q9 : IntKind.i64.wrap ((i : Int) * (m : Int)) = ((i * m : Nat) : Int) := by rw [IntWalk.i64_in _ (by rw [← Int.natCast_mul]; omega)]; push_cast; rfl
      have q8 : IntKind.i64.wrap ((m : Int) * (i : Int)) = ((i * m : Nat) : Int) := by rw [Int.mul_comm]; exact q9
      clear HMY HM HIN hlen hrow
      obtain ⟨q, hq⟩ : ∃ q, i * m = q := ⟨_, rfl⟩
      obtain ⟨L, hL⟩ : ∃ L, (pig m i).length = L := ⟨_, rfl⟩
      rw [hq] at q8 q9 HSO HF HEV hnm
      rw [hL] at HSO HEV ⊢
      clear hq hL
      go_upto_region 22 with (go_at_call 12; refine HSO.out.mono ?_; rintro e w3 ⟨r, v, a, code, rfl, hR, hb3, hS⟩; have HR := Aside0.mk hR; have HB3 := Aside0.mk hb3; obtain ⟨Av, cv, rfl⟩ := Kd.R_slice hR; have HSS := Aside0.mk (HF.out _ _ _ hS); clear hb3 hS hR)
      obtain ⟨rfl, ⟨rfl, hl, hs, hd⟩ | ⟨rfl, rfl, hd⟩⟩ := HSS.out
      · have HE := Aside0.mk (HEV.out w3 _ a _ _ HB3.out HR.out hl hs)
        clear hl hs HSS HF HEV HSO
        go_wp2_with (go_at_call 15; refine HE.out.mono ?_; rintro e w4 ⟨rfl, hb4⟩; have HB4 := Aside0.mk hb4; clear hb4)
        go_ret
        exact ⟨rfl, HB.out.trans ((HB3.out.trans (HB4.out.mono HB3.out.size)).mono HB.out.size)⟩
      · clear HSS HF HEV HSO
        go_wp2_with fail
        go_ret
        exact ⟨rfl, HB.out.trans (HB3.out.mono HB.out.size)⟩
end Go.Proofs.Ytnhpfdnhnocgjaa.S
