/- FailsGo: any entries, asked any number of times. -/
import Derived.Test.YtpjnacblaipljaaFailsKnown
namespace Go.Proofs.Ytpjnacblaipljaa.Fails
set_option linter.unusedVariables false
set_option linter.unusedSimpArgs false
open Go.RowKit Go.Proofs.YtpjnacblaipljaaW.PrintWords Go.Proofs.YtpjnacblaipljaaW.PrintLast Go.Proofs.YtpjnacblaipljaaW.PrintMore
theorem count_step (l : List Bool) (p : Nat) (hp : p < l.length) : ((l.take (p + 1)).count true : Int) = (l.take p).count true + (if l.getD p false = true then 1 else 0) := by
  rw [List.take_add_one, List.count_append, List.getElem?_eq_getElem hp, List.getD_eq_getElem?_getD, List.getElem?_eq_getElem hp]
  cases h : l[p] <;> simp [h]
theorem may_l (l : List Bool) (a1 a2 : Int) (hl : l.length ≤ 200) : ∀ (d p : Nat), p + d = l.length →
    Q.fails_May.l0 (d + 1) l a1 a2 ((l.take p).count true : Int) l (l.length : Int) (p : Int) = some (decide ((l.length : Int) = a1) && decide (a1 ≤ 6) && decide ((l.count true : Int) ≤ a2))
  | 0, p, h => by
    have hp : p = l.length := by omega
    subst hp
    rw [Q.fails_May.l0, if_neg (by omega), List.take_length]
    by_cases h1 : (l.length : Int) = a1
    · rw [if_pos h1]
      by_cases h2 : a1 ≤ 6
      · rw [if_pos h2]; simp [h1, h2]
      · rw [if_neg h2]; simp [h2]
    · rw [if_neg h1]; simp [h1]
  | d + 1, p, h => by
    have ih := may_l l a1 a2 hl d (p + 1) (by omega)
    have hs := count_step l p (by omega)
    have hcnt : ((l.take p).count true : Int) ≤ 200 := by
      have h1 := List.count_le_length (a := true) (l := l.take p)
      have h2 := List.length_take_le p l
      omega
    have w1 : wrap64 ((p : Int) + 1) = ((p + 1 : Nat) : Int) := by unfold wrap64; omega
    have w2 : wrap64 (((l.take p).count true : Int) + 1) = ((l.take p).count true : Int) + 1 := by unfold wrap64; omega
    have hr : rdOf false l (p : Int) = l.getD p false := rfl
    rw [Q.fails_May.l0, if_pos (by omega), if_pos (by omega), if_pos (by omega), hr, w1, w2]
    by_cases hx : l.getD p false = true
    · rw [if_pos hx]; rw [if_pos hx] at hs; rw [← hs]; exact ih
    · rw [if_neg hx]; rw [if_neg hx, Int.add_zero] at hs; rw [← hs]; exact ih
/-- How 'May' answers. -/
theorem may_f (l : List Bool) (a1 a2 : Int) (hl : l.length ≤ 200) : ∃ k, Q.fails_May.f k l a1 a2 = some (decide ((l.length : Int) = a1) && decide (a1 ≤ 6) && decide ((l.count true : Int) ≤ a2)) :=
  ⟨l.length + 1, may_l l a1 a2 hl l.length 0 (by omega)⟩
attribute [local go_sem] max2_int min2_int max_two min_two max_three min_three max_four min_four
set_option maxRecDepth 100000 in
set_option maxHeartbeats 8000000 in
theorem go_calls (w : World) (A : Option Addr) (c : Nat) (l : List Bool) (hr : Kd.C Kd.bool w A l.length l) (hc : l.length ≤ c) (hl : l.length ≤ 200) (n : Int) (hn0 : 0 ≤ n) (hn : n < 256) (k0 k1 : Int) :
    Calls Try.prog 3 #[.slice A l.length c, .int .u8 n, .agg #[.int .i64 k0, .int .i64 k1]] w fun e w' => e = .returned (.bool true) ∧ Below w.heap.size w w' := by
  have hg : ¬ ((200 : Int) < (l.length : Int)) := by omega
  have a1 := (Below.refl w.heap.size w).alloc (Nat.le_refl _) (Obj.cells #[Value.int IntKind.i64 k0, Value.int IntKind.i64 k1] 23)
  go_enter Try.func3, Try.ntmps3
  go_wp2_with (first
    | (go_at_call 12; go_must (refine (awake_calls _).mono ?_); rintro e w1 ⟨rfl, hB1⟩)
    | (go_at_call 13; go_must (refine (new_calls A c l _ (Kd.C_below hr (a1.trans (hB1.mono a1.size))) hc (by omega)).mono ?_); rintro e w2 ⟨g, v, rfl, hF, hB2⟩))
  have hBw : ∀ wr, Below w1.heap.size w1 wr → Below w.heap.size w wr := fun wr h => a1.trans ((hB1.mono a1.size).trans (h.mono (Nat.le_trans a1.size hB1.size)))
  go_loopg [8] n.toNat (fun kq v8 w' => ∃ i : Int, v8 = .int .i64 i ∧ Aside0 (0 ≤ i ∧ i ≤ n ∧ (kq : Int) + i = n) ∧ Aside0 (F w' w1.heap.size g v l (if (l.length : Int) < i then (l.length : Int) else i)) ∧ Aside0 (Below w1.heap.size w1 w'))
  case atStart => exact ⟨0, rfl, ⟨by omega⟩, ⟨by rw [if_neg (by omega)]; exact hF⟩, ⟨hB2⟩⟩
  case round =>
    obtain ⟨i, rfl, HI, HF, HB⟩ := hrel
    have hFi := HF.out
    have hI := HI.out
    by_cases hin : i < n
    · by_cases hil : i < (l.length : Int)
      · rw [if_neg (by omega)] at hFi
        have hCr : Kd.C Kd.bool wr A l.length l := Kd.C_below hr (hBw wr HB.out)
        obtain ⟨ad, rfl, hx⟩ := Kd.at_bool hCr i (by omega) hil
        have hw1 : wrap64 (i + 1) = i + 1 := by unfold wrap64; omega
        have hmin : ¬ ((l.length : Int) < i + 1) := by omega
        have hi0 : (0 : Int) ≤ i ∧ i < (l.length : Int) := ⟨by omega, hil⟩
        obtain ⟨x, hxx⟩ : ∃ x, x = rdOf false l i := ⟨_, rfl⟩
        rw [← hxx] at hx
        have hxg : l.getD i.toNat false = x := by rw [hxx]; rfl
        go_wp2_with (first
          | (go_at_call 14; go_must (refine (next_more _ _ g v l i hFi (by omega) hil hw1).mono ?_); rw [hxg]; rintro e w3 ⟨rfl, ⟨n3, rfl⟩⟩; have hF3 := F_step hFi (i + 1))
          | (go_at_call 15; go_must (refine (used_calls _ _ g v l (i + 1) (F_drewN hF3 _)).mono ?_); rintro e w5 ⟨rfl, ⟨n5, rfl⟩⟩))
        obtain ⟨k1, rfl⟩ : ∃ k1, gk = k1 + 1 := ⟨gk - 1, by omega⟩
        go_roundg k1
        case measure => omega
        case rel =>
          refine ⟨i + 1, by first | rfl | (simp; done), ⟨by omega⟩, ⟨?_⟩, ⟨?_⟩⟩
          · rw [if_neg (by omega)]; exact F_drewN hF3 _
          · exact pw_below_drewN (HB.out.setCell (p := ⟨g, 1, none⟩) hFi.2.1 _) _
      · have hat : (if (l.length : Int) < i then (l.length : Int) else i) = (l.length : Int) := by split <;> omega
        rw [hat] at hFi
        have hw1 : wrap64 (i + 1) = i + 1 := by unfold wrap64; omega
        have hmin : (l.length : Int) < i + 1 := by omega
        go_wp2_with (first
          | (go_at_call 14; go_must (refine (next_end _ _ g v l hFi).mono ?_); rintro e w3 ⟨rfl, ⟨n3, rfl⟩⟩)
          | (go_at_call 15; go_must (refine (used_calls _ _ g v l l.length (F_drewN hFi _)).mono ?_); rintro e w5 ⟨rfl, ⟨n5, rfl⟩⟩))
        obtain ⟨k1, rfl⟩ : ∃ k1, gk = k1 + 1 := ⟨gk - 1, by omega⟩
        go_roundg k1
        case measure => omega
        case rel =>
          refine ⟨i + 1, by first | rfl | (simp; done), ⟨by omega⟩, ⟨?_⟩, ⟨?_⟩⟩
          · rw [if_pos (by omega)]; exact F_drewN hFi _
          · exact pw_below_drewN HB.out _
    · go_wp2
      have hCr : Kd.C Kd.bool wr A l.length l := Kd.C_below hr (hBw wr HB.out)
      go_loopg [10, 11] l.length (fun kq v10 v11 w' => ∃ j : Int, v10 = .int .i64 ((l.take j.toNat).count true) ∧ v11 = .int .i64 j ∧ Aside0 (0 ≤ j ∧ j ≤ (l.length : Int) ∧ (kq : Int) + j = l.length) ∧ w' = wr)
      case atStart => exact ⟨0, by first | rfl | simp, rfl, ⟨by omega⟩, rfl⟩
      case round =>
        obtain ⟨j, rfl, rfl, HJ, rfl⟩ := hrel
        have hJ := HJ.out
        have hcnt : ((l.take j.toNat).count true : Int) ≤ 200 := by
          have h1 := List.count_le_length (a := true) (l := l.take j.toNat)
          have h2 := List.length_take_le j.toNat l
          omega
        by_cases hjl : j < (l.length : Int)
        · obtain ⟨ad, rfl, hx⟩ := Kd.at_bool hCr j (by omega) hjl
          have hw1 : wrap64 (j + 1) = j + 1 := by unfold wrap64; omega
          have hw2 : wrap64 (((l.take j.toNat).count true : Int) + 1) = ((l.take j.toNat).count true : Int) + 1 := by unfold wrap64; omega
          have hi0 : (0 : Int) ≤ j ∧ j < (l.length : Int) := ⟨by omega, hjl⟩
          have hstep : ((l.take (j + 1).toNat).count true : Int) = (l.take j.toNat).count true + (if rdOf false l j = true then 1 else 0) := by
            have := count_step l j.toNat (by omega)
            rw [show (j + 1).toNat = j.toNat + 1 by omega, this]
            rfl
          obtain ⟨x, hxx⟩ : ∃ x, x = rdOf false l j := ⟨_, rfl⟩
          rw [← hxx] at hx hstep
          clear hxx
          generalize ((l.take j.toNat).count true : Int) = m at hw2 hstep hcnt ⊢
          obtain ⟨k2, rfl⟩ : ∃ k2, gk = k2 + 1 := ⟨gk - 1, by omega⟩
          cases x
          · go_wp2
            go_roundg k2
            case measure => omega
            case rel => exact ⟨j + 1, by rw [hstep]; first | rfl | simp, rfl, ⟨by omega⟩, rfl⟩
          · go_wp2
            go_roundg k2
            case measure => omega
            case rel => exact ⟨j + 1, by rw [hstep]; first | rfl | simp, rfl, ⟨by omega⟩, rfl⟩
        · have hj : j.toNat = l.length := by omega
          rw [hj, List.take_length] at hcnt ⊢
          obtain ⟨K, hK⟩ := may_f l k0 k1 hl
          obtain ⟨m, hm⟩ : ∃ m : Int, m = (l.count true : Int) := ⟨_, rfl⟩
          rw [← hm] at hK ⊢
          have hA : Below _ (w.alloc (Obj.cells #[Value.int IntKind.i64 k0, Value.int IntKind.i64 k1] 23)) wr := hB1.trans (HB.out.mono hB1.size)
          have hlt : w.heap.size < (w.alloc (Obj.cells #[Value.int IntKind.i64 k0, Value.int IntKind.i64 k1] 23)).heap.size := by
            show w.heap.size < (w.heap.push _).size
            rw [Array.size_push]; omega
          have c0 : wr.cell? ⟨w.heap.size, 0, none⟩ = some (.int .i64 k0) := by rw [hA.cell hlt, World.cell?_alloc_mark]; rfl
          have c1 : wr.cell? ⟨w.heap.size, 1, none⟩ = some (.int .i64 k1) := by rw [hA.cell hlt, World.cell?_alloc_mark]; rfl
          have hend := HB.out
          clear HB HF hFi HJ HI hA hlt hm
          by_cases p2 : (l.length : Int) = k0 <;> by_cases p1 : k0 ≤ 6 <;> by_cases p3 : m ≤ k1 <;> by_cases p0 : 0 ≤ k0 <;> first | (exfalso; omega) | skip
          all_goals
            simp only [p1, p2, p3, decide_true, decide_false, Bool.and_true, Bool.and_false, Bool.true_and, Bool.false_and] at hK
          all_goals
            have q2 : ((l.length : Int) == k0) = decide ((l.length : Int) = k0) := rfl
            simp only [p2, decide_true, decide_false] at q2
            have b1 : decide (k0 ≤ 6) = decide (k0 ≤ 6) := rfl
            have b0 : decide (0 ≤ k0) = decide (0 ≤ k0) := rfl
            have b3 : decide (m ≤ k1) = decide (m ≤ k1) := rfl
            conv at b1 => rhs; simp only [p1, decide_true, decide_false]
            conv at b0 => rhs; simp only [p0, decide_true, decide_false]
            conv at b3 => rhs; simp only [p3, decide_true, decide_false]
            have hM := fun n => Calls.quiet_of ((Q.fails_May.calls K A c l k0 k1 _ (wr.drewN n) (Kd.C_drewN hCr n) hc hK).mono (fun e w' h => by obtain ⟨he, ⟨m, hm⟩⟩ := h; exact ⟨he, m, hm⟩))
            go_wp2
            repeat (go_quiet (first | (go_at_call 16; exact hM _)); try go_wp2)
            go_ret
            exact ⟨by first | rfl | (simp; done) | (simp [*]; done), pw_below_drewN (hBw _ hend) _⟩

set_option maxRecDepth 100000 in
set_option maxHeartbeats 4000000 in
theorem go_long (w : World) (A : Option Addr) (c : Nat) (l : List Bool) (hl : ¬ l.length ≤ 200) (n : Int) (k0 k1 : Int) :
    Calls Try.prog 3 #[.slice A l.length c, .int .u8 n, .agg #[.int .i64 k0, .int .i64 k1]] w fun e w' => e = .returned (.bool true) ∧ Below w.heap.size w w' := by
  have hg : (200 : Int) < (l.length : Int) := by omega
  have a1 := (Below.refl w.heap.size w).alloc (Nat.le_refl _) (Obj.cells #[Value.int IntKind.i64 k0, Value.int IntKind.i64 k1] 23)
  go_enter Try.func3, Try.ntmps3
  go_wp2_with (go_at_call 12; go_must (refine (awake_calls _).mono ?_); rintro e w1 ⟨rfl, hB1⟩)
  go_ret
  exact ⟨by first | rfl | (simp; done), a1.trans (hB1.mono a1.size)⟩
theorem wf_u8 {n : Int} (h : (Lit.int .u8 n).wf = true) : 0 ≤ n ∧ n < 256 := by
  have hmin : IntKind.u8.min = 0 := rfl
  have hmax : IntKind.u8.max = 255 := rfl
  simp only [Lit.wf, Bool.and_eq_true, decide_eq_true_eq] at h
  omega
end Go.Proofs.Ytpjnacblaipljaa.Fails
