/- WideOrder: less is an order; with a sign it is that of numbers whose highest bit is turned. For every width and all numbers. -/
import Derived.Test.YtcjoblnfbopaeaaPx2
import Derived.Test.YtcjoblnfbopaeaaWideBits
namespace Go.Proofs.Ytcjoblnfbopaeaa.Pure
open Go.RowKit Go.Proofs.Ytcjoblnfbopaeaa.P Go.Proofs.Ytcjoblnfbopaeaa.Lem Go.Proofs.YtcjoblnfbopaeaaW.PrintWords Go.Proofs.YtcjoblnfbopaeaaW.PrintLast Go.Proofs.YtcjoblnfbopaeaaW.PrintMore

/-- Half of the modulus. -/
def half (w : Int) : Int := if w = 1 then 1 else if w = 8 then 128 else 32768
theorem half_twice {w m M : Int} (h : Width w m M) : M = 2 * half w ∧ 1 ≤ half w ∧ half w ≤ 32768 ∧ m = M - 1 := by cases h <;> decide
theorem cnt {w m M : Int} (h : Width w m M) : IntKind.u64.wrap (wrap64 (w - 1)) = w - 1 := by
  cases h <;> (rw [wrap_u64]; unfold wrap64; omega)
theorem half_shl {w m M : Int} (h : Width w m M) : 0 ≤ IntKind.u64.wrap (wrap64 (w - 1)) ∧ shl .u16 1 (IntKind.u64.wrap (wrap64 (w - 1))) = half w := by
  rw [cnt h]
  cases h <;> exact ⟨by decide, by kernel_rfl⟩
theorem half_shr {w m M : Int} (h : Width w m M) (x : Int) : shr .u16 x (IntKind.u64.wrap (wrap64 (w - 1))) = x / half w := by
  rw [cnt h]
  unfold shr
  congr 1
  cases h <;> kernel_rfl
theorem turned {w m M : Int} (h : Width w m M) (a : Int) (h0 : 0 ≤ a) (h1 : a < 65536) : bits .xor .u16 a (half w) % M = (a % M + half w) % M := by
  cases h
  · exact top_turned 0 (by decide) a h0 h1
  · exact top_turned 7 (by decide) a h0 h1
  · exact top_turned 15 (by decide) a h0 h1
/-- A number with a sign. -/
theorem signed_is {w m M : Int} (h : Width w m M) (a : Int) (h0 : 0 ≤ a) (h1 : a < 65536) : wide_Signed.f w a = some (if half w ≤ a % M then a % M - M else a % M) := by
  obtain ⟨e1, e2, e3, e4⟩ := half_twice h
  have hx0 : 0 ≤ a % M := Int.emod_nonneg _ (by omega)
  have hx1 : a % M < M := Int.emod_lt_of_pos _ (by omega)
  unfold wide_Signed.f
  rw [h.mask, Option.bind_some, h.may, Option.bind_some, if_pos rfl, if_pos (half_shl h).1, h.and h0 h1, half_shr h, Option.bind_some]
  have hw : ∀ n : Int, -65536 ≤ n → n ≤ 65536 → wrap64 n = n := by intro n _ _; unfold wrap64; omega
  by_cases hl : half w ≤ a % M
  · have hd : a % M / half w = 1 := by
      apply Int.le_antisymm
      · exact Int.lt_add_one_iff.mp (Int.ediv_lt_of_lt_mul (by omega) (by omega))
      · exact (Int.le_ediv_iff_mul_le (by omega)).mpr (by omega)
    rw [if_pos hd, if_pos hl, hw (a % M) (by omega) (by omega), hw m (by omega) (by omega), hw (a % M - m) (by omega) (by omega), hw _ (by omega) (by omega)]
    congr 1; omega
  · have hd : a % M / half w = 0 := Int.ediv_eq_zero_of_lt hx0 (by omega)
    rw [if_neg (by rw [hd]; decide), if_neg hl, hw _ (by omega) (by omega)]

theorem WideOrder : crossroadslaw1_WideOrder.Pure := by
  intro w a b hw ha hb
  obtain ⟨ha0, ha1⟩ := wf_u16 ha
  obtain ⟨hb0, hb1⟩ := wf_u16 hb
  unfold crossroadslaw1_WideOrder.f
  rw [awake_true, Option.bind_some, if_pos rfl]
  obtain ⟨ok, hok⟩ := rmay_some w
  cases ok with
  | false => rw [hok, Option.bind_some, if_neg (by decide)]
  | true =>
  obtain ⟨m, M, h⟩ := width_of hok
  obtain ⟨e1, e2, e3, e4⟩ := half_twice h
  have hM := M_pos h
  rw [hok, Option.bind_some, if_pos rfl, if_pos (half_shl h).1, (half_shl h).2]
  rw [do_lt h ha0 ha1 hb0 hb1, Option.bind_some, do_lt h (bits_range _ _ _).1 (bits_range _ _ _).2 (bits_range _ _ _).1 (bits_range _ _ _).2, Option.bind_some, h.rmask, Option.bind_some, h.and ha0 ha1, h.and hb0 hb1, signed_is h a ha0 ha1, signed_is h b hb0 hb1]
  rw [turned h a ha0 ha1, turned h b hb0 hb1]
  have hx0 : 0 ≤ a % M := Int.emod_nonneg _ (by omega)
  have hx1 : a % M < M := Int.emod_lt_of_pos _ (by omega)
  have hy0 : 0 ≤ b % M := Int.emod_nonneg _ (by omega)
  have hy1 : b % M < M := Int.emod_lt_of_pos _ (by omega)
  generalize a % M = x at *
  generalize b % M = y at *
  have tx : (x + half w) % M = if half w ≤ x then x - half w else x + half w := by
    split
    · rw [show x + half w = (x - half w) + M by omega, Int.add_emod_right, Int.emod_eq_of_lt (by omega) (by omega)]
    · rw [Int.emod_eq_of_lt (by omega) (by omega)]
  have ty : (y + half w) % M = if half w ≤ y then y - half w else y + half w := by
    split
    · rw [show y + half w = (y - half w) + M by omega, Int.add_emod_right, Int.emod_eq_of_lt (by omega) (by omega)]
    · rw [Int.emod_eq_of_lt (by omega) (by omega)]
  rw [tx, ty]
  have c1 : ((((if x < y then (1 : Int) else 0, (0 : Int)).1 == 1) == decide (x < y)) = true) := by by_cases hxy : x < y <;> simp [hxy]
  rw [if_pos c1, Option.bind_some, Option.bind_some]
  congr 1
  by_cases p : half w ≤ x <;> by_cases q : half w ≤ y <;> simp only [p, q, if_true, if_false] <;>
    (by_cases r : x < y <;> simp <;> split <;> simp <;> omega)
end Go.Proofs.Ytcjoblnfbopaeaa.Pure
