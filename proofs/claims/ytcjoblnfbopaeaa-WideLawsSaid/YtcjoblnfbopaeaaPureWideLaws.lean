/- WideLaws: for every width and all numbers the law's call answers true. -/
import Derived.Test.YtcjoblnfbopaeaaWalkLaws
import Derived.Test.YtcjoblnfbopaeaaPureWideDoes
namespace Go.Proofs.Ytcjoblnfbopaeaa.Pure
set_option linter.unusedVariables false
open Go.RowKit Go.Proofs.Ytcjoblnfbopaeaa.P Go.Proofs.Ytcjoblnfbopaeaa.Lem Go.Proofs.YtcjoblnfbopaeaaW.PrintWords Go.Proofs.YtcjoblnfbopaeaaW.PrintLast Go.Proofs.YtcjoblnfbopaeaaW.PrintMore

theorem xor_back (a b : Int) (ha0 : 0 ≤ a) (ha : a < 65536) (hb0 : 0 ≤ b) (hb : b < 65536) : bits .xor .u16 (bits .xor .u16 a b) b = a ∧ bits .xor .u16 b (bits .xor .u16 b a) = a := by
  obtain ⟨n, rfl⟩ := Int.eq_ofNat_of_zero_le ha0
  obtain ⟨k, rfl⟩ := Int.eq_ofNat_of_zero_le hb0
  have hn : n < 2 ^ 16 := by omega
  have hk : k < 2 ^ 16 := by omega
  have h1 := Nat.xor_lt_two_pow hn hk
  have h2 := Nat.xor_lt_two_pow hk hn
  constructor
  · rw [(bits_of_nat n k hn hk).2.2, (bits_of_nat _ k h1 hk).2.2, Nat.xor_assoc, Nat.xor_self, Nat.xor_zero]
  · rw [(bits_of_nat k n hk hn).2.2, (bits_of_nat k _ hk h2).2.2, ← Nat.xor_assoc, Nat.xor_self, Nat.zero_xor]

theorem walk (a0 a1 a2 : Int) (h1 : (Lit.int .u16 a1).wf = true) (h2 : (Lit.int .u16 a2).wf = true) (w : World) :
    Calls Try.prog 5 #[.int .i64 a0, .int .u16 a1, .int .u16 a2] w fun e w' => e = .returned (.bool true) ∧ Below w.heap.size w w' := by
  obtain ⟨ha0, ha⟩ := wf_u16 h1
  obtain ⟨hb0, hb⟩ := wf_u16 h2
  obtain ⟨ok, hok⟩ := rmay_some a0
  cases ok with
  | false => exact laws_out a0 a1 a2 w awake_true hok
  | true =>
  obtain ⟨m, M, h⟩ := width_of hok
  have hM := M_pos h
  obtain ⟨i, hi16, hwi, hMi, hmi⟩ := wd h
  have hx0 : 0 ≤ a1 % M := Int.emod_nonneg _ (by omega)
  have hx1 : a1 % M < M := Int.emod_lt_of_pos _ (by omega)
  have hy0 : 0 ≤ a2 % M := Int.emod_nonneg _ (by omega)
  have hy1 : a2 % M < M := Int.emod_lt_of_pos _ (by omega)
  have u : ∀ z : Int, 0 ≤ z % M ∧ z % M < 65536 := fun z => ⟨Int.emod_nonneg _ (by omega), by have := Int.emod_lt_of_pos z (show 0 < M by omega); omega⟩
  have ex : bits .xor .u16 (a1 % M) (a2 % M) % M = bits .xor .u16 a1 a2 % M := by
    rw [hMi]; exact (bits_cut i a1 a2 ha0 ha hb0 hb .xor (by simp)).symm
  have xr := bits_range .xor a1 a2
  have ey : bits .xor .u16 (bits .xor .u16 (a1 % M) (a2 % M) % M % M) (a2 % M) % M = a1 % M := by
    rw [Int.emod_emod, ex, hMi, ← bits_cut i (bits .xor .u16 a1 a2) a2 xr.1 xr.2 hb0 hb .xor (by simp), (xor_back a1 a2 ha0 ha hb0 hb).1]
  have nr := bits_range .xor 65535 a1
  have en : bits .xor .u16 65535 (bits .xor .u16 65535 (a1 % M) % M % M) % M = a1 % M := by
    rw [Int.emod_emod, hMi, not_cut i a1 ha0 ha, not_cut i _ nr.1 nr.2, (xor_back a1 65535 ha0 ha (by decide) (by decide)).2]
  have hs := do_add h ha0 ha hb0 hb
  have ht : wide_Do.f 7 a0 a2 a1 = some ((a1 % M + a2 % M) % M, 0) := by rw [do_add h hb0 hb ha0 ha, Int.add_comm]
  have hm := do_mul h ha0 ha hb0 hb
  have hn : wide_Do.f 9 a0 a2 a1 = some ((a1 % M * (a2 % M)) % M, 0) := by rw [do_mul h hb0 hb ha0 ha, Int.mul_comm]
  have hd := do_sub h ha0 ha hb0 hb
  have hc : wide_Do.f 7 a0 ((a1 % M - a2 % M) % M) a2 = some (a1 % M, 0) := by
    rw [do_add h (u _).1 (u _).2 hb0 hb]
    congr 2
    rw [Int.emod_emod, Int.emod_add_emod, Int.sub_add_cancel, Int.emod_emod]
  have hx := do_xor h ha0 ha hb0 hb
  have hy : wide_Do.f 6 a0 (bits .xor .u16 (a1 % M) (a2 % M) % M) a2 = some (a1 % M, 0) := by
    rw [do_xor h (u _).1 (u _).2 hb0 hb, ey]
  have hu := do_not h ha0 ha (b := 0) (by decide) (by decide)
  have hv : wide_Do.f 3 a0 (bits .xor .u16 65535 (a1 % M) % M) 0 = some (a1 % M, 0) := by
    rw [do_not h (u _).1 (u _).2 (by decide) (by decide), en]
  have hl := do_lt h ha0 ha hb0 hb
  have hk := do_lt h hb0 hb ha0 ha
  have he := do_eq h ha0 ha hb0 hb
  have hone : IntKind.u16.wrap (IntKind.u16.wrap ((if a1 % M < a2 % M then 1 else 0) + (if a2 % M < a1 % M then 1 else 0)) + (if a1 % M = a2 % M then 1 else 0)) = 1 := by
    rw [wrap_u16, wrap_u16]
    rcases Int.lt_trichotomy (a1 % M) (a2 % M) with g | g | g
    · rw [if_pos g, if_neg (by omega), if_neg (by omega)]; rfl
    · rw [if_neg (by omega), if_neg (by omega), if_pos g]; rfl
    · rw [if_neg (by omega), if_pos g, if_neg (by omega)]; rfl
  have hq := do_div h ha0 ha hb0 hb
  have hr := do_mod h ha0 ha hb0 hb
  by_cases hz : a2 % M = 0
  · rw [if_pos hz] at hq hr
    exact laws0 a0 a1 a2 m (a2 % M) _ _ _ _ _ _ _ _ _ _ _ w awake_true hok h.rmask hq hr hl hk he hs ht hm hn hd hc hx hy hu hv hone (h.and ha0 ha) (h.and hb0 hb) (by simp [hz])
  · rw [if_neg hz] at hq hr
    have g0 : 0 < a2 % M := by omega
    have q0 : 0 ≤ a1 % M / (a2 % M) := Int.ediv_nonneg hx0 hy0
    have q1 : a1 % M / (a2 % M) ≤ a1 % M := Int.ediv_le_self _ hx0
    have r0 : 0 ≤ a1 % M % (a2 % M) := Int.emod_nonneg _ hz
    have r1 := Int.emod_lt_of_pos (a1 % M) g0
    have key := Int.mul_ediv_add_emod (a1 % M) (a2 % M)
    have p0 : 0 ≤ a1 % M / (a2 % M) * (a2 % M) := Int.mul_nonneg q0 hy0
    have key' : a1 % M / (a2 % M) * (a2 % M) + a1 % M % (a2 % M) = a1 % M := by rw [Int.mul_comm]; exact key
    have hp : wide_Do.f 9 a0 (a1 % M / (a2 % M)) a2 = some (a1 % M / (a2 % M) * (a2 % M), 0) := by
      rw [do_mul h q0 (by omega) hb0 hb, Int.emod_eq_of_lt q0 (by omega : a1 % M / (a2 % M) < M), Int.emod_eq_of_lt p0 (by omega)]
    have hg : wide_Do.f 7 a0 (a1 % M / (a2 % M) * (a2 % M)) (a1 % M % (a2 % M)) = some (a1 % M, 0) := by
      rw [do_add h p0 (by omega) r0 (by omega), Int.emod_eq_of_lt p0 (by omega), Int.emod_eq_of_lt r0 (by omega), key', Int.emod_eq_of_lt hx0 hx1]
    exact laws1 a0 a1 a2 m (a2 % M) _ _ _ _ _ _ _ _ _ _ _ _ w awake_true hok h.rmask hq hr hl hk he hs ht hm hn hd hc hx hy hu hv hp hg hone (h.and ha0 ha) (h.and hb0 hb) (by simp [hz]) r1
end Go.Proofs.Ytcjoblnfbopaeaa.Pure
