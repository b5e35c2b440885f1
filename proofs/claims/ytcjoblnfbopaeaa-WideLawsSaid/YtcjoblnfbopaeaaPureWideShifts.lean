/- WideShifts: a shift to the left is a product, one to the right a quotient, by a power of two. For every width, number and count. -/
import Derived.Test.YtcjoblnfbopaeaaPx2
import Derived.Test.YtcjoblnfbopaeaaWideLem
namespace Go.Proofs.Ytcjoblnfbopaeaa.Pure
open Go.RowKit Go.Proofs.Ytcjoblnfbopaeaa.P Go.Proofs.Ytcjoblnfbopaeaa.Lem Go.Proofs.YtcjoblnfbopaeaaW.PrintWords Go.Proofs.YtcjoblnfbopaeaaW.PrintLast Go.Proofs.YtcjoblnfbopaeaaW.PrintMore

theorem shl_beyond {w m M : Int} (h : Width w m M) (x n : Int) (hn : w ≤ n) : shl .u16 x n % M = 0 := by
  unfold shl
  rw [wrap_u16]
  have hb : IntKind.u16.bits = 16 := rfl
  rw [hb]
  cases h
  · obtain ⟨j, hj⟩ : ∃ j, min n.toNat 16 = j + 1 := ⟨min n.toNat 16 - 1, by omega⟩
    rw [hj, Int.pow_succ, ← Int.mul_assoc]; omega
  · obtain ⟨j, hj⟩ : ∃ j, min n.toNat 16 = j + 8 := ⟨min n.toNat 16 - 8, by omega⟩
    rw [hj, Int.pow_add, ← Int.mul_assoc]; omega
  · obtain ⟨j, hj⟩ : ∃ j, min n.toNat 16 = j + 16 := ⟨min n.toNat 16 - 16, by omega⟩
    rw [hj, Int.pow_add, ← Int.mul_assoc]; omega
theorem shr_beyond {w m M : Int} (h : Width w m M) (x n : Int) (hx : 0 ≤ x) (hx2 : x < M) (hn : w ≤ n) : shr .u16 x n = 0 := by
  unfold shr
  have hb : IntKind.u16.bits = 16 := rfl
  rw [hb]
  apply Int.ediv_eq_zero_of_lt hx
  cases h
  · obtain ⟨j, hj⟩ : ∃ j, min n.toNat 16 = j + 1 := ⟨min n.toNat 16 - 1, by omega⟩
    rw [hj, Int.pow_succ]; have := Int.pow_pos (n := 2) (m := j) (by decide); omega
  · obtain ⟨j, hj⟩ : ∃ j, min n.toNat 16 = j + 8 := ⟨min n.toNat 16 - 8, by omega⟩
    rw [hj, Int.pow_add]; have := Int.pow_pos (n := 2) (m := j) (by decide); omega
  · obtain ⟨j, hj⟩ : ∃ j, min n.toNat 16 = j + 16 := ⟨min n.toNat 16 - 16, by omega⟩
    rw [hj, Int.pow_add]; have := Int.pow_pos (n := 2) (m := j) (by decide); omega

theorem M_dvd {w m M : Int} (h : Width w m M) : M ∣ 65536 := by cases h <;> decide

/-- Two to a number below the width, as 'shl' tells it. -/
theorem shl_one {w m M : Int} (h : Width w m M) (n : Int) (h0 : 0 ≤ n) (hn : n < w) : shl .u16 1 n = 2 ^ n.toNat ∧ (2 : Int) ^ n.toNat < M ∧ 0 < (2 : Int) ^ n.toNat := by
  have hw : w ≤ 16 := by cases h <;> omega
  have hp : (0 : Int) < 2 ^ n.toNat := Int.pow_pos (by decide)
  have hM : (2 : Int) ^ n.toNat < M := by
    have hk : n.toNat < w.toNat := by omega
    have : (2 : Nat) ^ n.toNat < 2 ^ w.toNat := Nat.pow_lt_pow_right (by decide) hk
    have hM2 : M = ((2 ^ w.toNat : Nat) : Int) := by cases h <;> rfl
    rw [hM2]; exact_mod_cast this
  refine ⟨?_, hM, hp⟩
  unfold shl
  have hb : IntKind.u16.bits = 16 := rfl
  rw [hb, wrap_u16, Nat.min_eq_left (by omega), Int.one_mul]
  have := (M_pos h).2
  omega

theorem WideShifts : crossroadslaw1_WideShifts.Pure := by
  intro w a b hw ha hb
  obtain ⟨ha0, ha1⟩ := wf_u16 ha
  obtain ⟨hb0, hb1⟩ := wf_u8 hb
  unfold crossroadslaw1_WideShifts.f
  rw [awake_true]; simp -implicitDefEqProofs only [Option.bind_some, if_true]
  obtain ⟨ok, hok⟩ := rmay_some w
  cases ok with
  | false => rw [hok]; simp
  | true =>
  obtain ⟨m, M, h⟩ := width_of hok
  have hM := M_pos h
  rw [hok]; simp -implicitDefEqProofs only [Option.bind_some, if_true]
  have hu : IntKind.u16.wrap b = b := by rw [wrap_u16]; omega
  rw [hu, do_shl h ha0 ha1 hb0 (by omega), do_shr h ha0 ha1 hb0 (by omega), h.rmask]; simp -implicitDefEqProofs only [Option.bind_some]
  rw [h.and hb0 (by omega)]
  have hn0 : 0 ≤ b % M := Int.emod_nonneg _ (by omega)
  have hn1 : b % M < M := Int.emod_lt_of_pos _ (by omega)
  have hx0 : 0 ≤ a % M := Int.emod_nonneg _ (by omega)
  have hx1 : a % M < M := Int.emod_lt_of_pos _ (by omega)
  have hw64 : wrap64 (b % M) = b % M := by unfold wrap64; omega
  rw [hw64]
  by_cases hge : b % M ≥ w
  · rw [if_pos hge, shl_beyond h _ _ hge, shr_beyond h _ _ hx0 hx1 hge]; simp
  · rw [if_neg hge, if_pos hn0]
    obtain ⟨hs, hpM, hp0⟩ := shl_one h (b % M) hn0 (by omega)
    rw [hs, do_mul h ha0 ha1 (by omega) (by omega), do_div h ha0 ha1 (by omega) (by omega)]
    simp -implicitDefEqProofs only [Option.bind_some]
    have hpe : (2 : Int) ^ (b % M).toNat % M = 2 ^ (b % M).toNat := Int.emod_eq_of_lt (by omega) hpM
    rw [hpe]
    simp only [if_neg (show ¬ (2 : Int) ^ (b % M).toNat = 0 by omega)]
    have hdvd : M ∣ 65536 := M_dvd h
    have hb16 : IntKind.u16.bits = 16 := rfl
    have hw16 : w ≤ 16 := by cases h <;> omega
    have e1 : shl .u16 (a % M) (b % M) % M = a % M * 2 ^ (b % M).toNat % M := by
      unfold shl
      rw [hb16, wrap_u16, Nat.min_eq_left (by omega)]
      exact Int.emod_emod_of_dvd _ hdvd
    have e2 : shr .u16 (a % M) (b % M) = a % M / 2 ^ (b % M).toNat := by
      unfold shr
      rw [hb16, Nat.min_eq_left (by omega)]
    rw [if_pos e1, e2]
    simp
end Go.Proofs.Ytcjoblnfbopaeaa.Pure
