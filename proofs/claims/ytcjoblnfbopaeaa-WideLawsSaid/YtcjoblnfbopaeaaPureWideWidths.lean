/- WideWidths: what is reckoned at 16 bits and cut to 8 (and to 1) is, for sums, differences, products and bits, what is reckoned there. For every operator and all numbers. -/
import Derived.Test.YtcjoblnfbopaeaaPx2
import Derived.Test.YtcjoblnfbopaeaaWideBits
namespace Go.Proofs.Ytcjoblnfbopaeaa.Pure
open Go.RowKit Go.Proofs.Ytcjoblnfbopaeaa.P Go.Proofs.Ytcjoblnfbopaeaa.Lem Go.Proofs.YtcjoblnfbopaeaaW.PrintWords Go.Proofs.YtcjoblnfbopaeaaW.PrintLast Go.Proofs.YtcjoblnfbopaeaaW.PrintMore

/-- The cut of a number of 16 bits. -/
theorem of_is {w m M : Int} (h : Width w m M) (x : Int) (h0 : 0 ≤ x) (h1 : x < 65536) : wide_Of.f w (wrap64 x) = some (x % M) := by
  unfold wide_Of.f
  have e : wrap64 x = x := by unfold wrap64; omega
  rw [h.mask, Option.bind_some, e, wraps_u16 x h0 (by omega), h.and h0 h1]

/-- The rest of the law, once the three answers agree. -/
theorem rest_of (op a b x y z : Int) (h16 : wide_Do.f op 16 a b = some (x, 0)) (h8 : wide_Do.f op 8 a b = some (y, 0)) (h1 : wide_Do.f op 1 a b = some (z, 0))
    (hx0 : 0 ≤ x) (hx1 : x < 65536) (hy : x % 256 = y) (hz : x % 2 = z) : crossroadslaw1_WideWidths.j0 1 op a b false = some true := by
  rw [show (1 : Nat) = 0 + 1 from rfl, crossroadslaw1_WideWidths.j0]
  rw [if_neg (by decide), h16, Option.bind_some, h8, Option.bind_some, h1, Option.bind_some, if_pos rfl, if_pos rfl, if_pos rfl]
  rw [of_is .eight x hx0 hx1, Option.bind_some, if_pos hy, of_is .one x hx0 hx1, Option.bind_some, hz]
  simp

theorem same_bits (op : BinOp) (hop : op = .and ∨ op = .or ∨ op = .xor) (i : Nat) (a b : Int) (ha0 : 0 ≤ a) (ha1 : a < 65536) (hb0 : 0 ≤ b) (hb1 : b < 65536) :
    bits op .u16 (a % 65536) (b % 65536) % 65536 % ((2 ^ i : Nat) : Int) = bits op .u16 (a % ((2 ^ i : Nat) : Int)) (b % ((2 ^ i : Nat) : Int)) % ((2 ^ i : Nat) : Int) := by
  have hr := bits_range op a b
  rw [Int.emod_eq_of_lt ha0 ha1, Int.emod_eq_of_lt hb0 hb1, Int.emod_eq_of_lt hr.1 hr.2]
  exact bits_cut i a b ha0 ha1 hb0 hb1 op hop

theorem not_cut (i : Nat) (a : Int) (ha0 : 0 ≤ a) (ha1 : a < 65536) : bits .xor .u16 65535 (a % ((2 ^ i : Nat) : Int)) % ((2 ^ i : Nat) : Int) = bits .xor .u16 65535 a % ((2 ^ i : Nat) : Int) := by
  have hp : (0 : Int) < ((2 ^ i : Nat) : Int) := by exact_mod_cast Nat.two_pow_pos i
  have h0 : 0 ≤ a % ((2 ^ i : Nat) : Int) := Int.emod_nonneg _ (by omega)
  have h1 : a % ((2 ^ i : Nat) : Int) < 65536 := by
    by_cases hl : a < ((2 ^ i : Nat) : Int)
    · rw [Int.emod_eq_of_lt ha0 hl]; exact ha1
    · have := Int.emod_lt_of_pos a hp; omega
  rw [bits_cut i 65535 (a % ((2 ^ i : Nat) : Int)) (by decide) (by decide) h0 h1 .xor (by simp), bits_cut i 65535 a (by decide) (by decide) ha0 ha1 .xor (by simp), Int.emod_emod]

theorem WideWidths : crossroadslaw1_WideWidths.Pure := by
  intro op a b hop ha hb
  obtain ⟨ha0, ha1⟩ := wf_u16 ha
  obtain ⟨hb0, hb1⟩ := wf_u16 hb
  refine ⟨1, ?_⟩
  unfold crossroadslaw1_WideWidths.f
  rw [awake_true, Option.bind_some, if_pos rfl]
  by_cases h7 : op = 7
  · subst h7
    rw [if_pos rfl]
    exact rest_of 7 a b _ _ _ (do_add .sixteen ha0 ha1 hb0 hb1) (do_add .eight ha0 ha1 hb0 hb1) (do_add .one ha0 ha1 hb0 hb1) (by omega) (by omega) (by omega) (by omega)
  rw [if_neg h7]
  by_cases h8 : op = 8
  · subst h8
    rw [if_pos rfl]
    exact rest_of 8 a b _ _ _ (do_sub .sixteen ha0 ha1 hb0 hb1) (do_sub .eight ha0 ha1 hb0 hb1) (do_sub .one ha0 ha1 hb0 hb1) (by omega) (by omega) (by omega) (by omega)
  rw [if_neg h8]
  by_cases h9 : op = 9
  · subst h9
    rw [if_pos rfl]
    refine rest_of 9 a b _ _ _ (do_mul .sixteen ha0 ha1 hb0 hb1) (do_mul .eight ha0 ha1 hb0 hb1) (do_mul .one ha0 ha1 hb0 hb1) (by omega) (by omega) ?_ ?_
    · rw [Int.emod_emod_of_dvd _ (by decide), Int.mul_emod (a % 65536), Int.emod_emod_of_dvd _ (by decide), Int.emod_emod_of_dvd _ (by decide)]
    · rw [Int.emod_emod_of_dvd _ (by decide), Int.mul_emod (a % 65536), Int.emod_emod_of_dvd _ (by decide), Int.emod_emod_of_dvd _ (by decide)]
  rw [if_neg h9]
  by_cases h4 : op = 4
  · subst h4
    rw [if_pos rfl]
    exact rest_of 4 a b _ _ _ (do_and .sixteen ha0 ha1 hb0 hb1) (do_and .eight ha0 ha1 hb0 hb1) (do_and .one ha0 ha1 hb0 hb1) (by omega) (by omega) (same_bits .and (by simp) 8 a b ha0 ha1 hb0 hb1) (same_bits .and (by simp) 1 a b ha0 ha1 hb0 hb1)
  rw [if_neg h4]
  by_cases h5 : op = 5
  · subst h5
    rw [if_pos rfl]
    exact rest_of 5 a b _ _ _ (do_or .sixteen ha0 ha1 hb0 hb1) (do_or .eight ha0 ha1 hb0 hb1) (do_or .one ha0 ha1 hb0 hb1) (by omega) (by omega) (same_bits .or (by simp) 8 a b ha0 ha1 hb0 hb1) (same_bits .or (by simp) 1 a b ha0 ha1 hb0 hb1)
  rw [if_neg h5]
  by_cases h6 : op = 6
  · subst h6
    rw [if_pos rfl]
    exact rest_of 6 a b _ _ _ (do_xor .sixteen ha0 ha1 hb0 hb1) (do_xor .eight ha0 ha1 hb0 hb1) (do_xor .one ha0 ha1 hb0 hb1) (by omega) (by omega) (same_bits .xor (by simp) 8 a b ha0 ha1 hb0 hb1) (same_bits .xor (by simp) 1 a b ha0 ha1 hb0 hb1)
  rw [if_neg h6]
  by_cases h3 : op = 3
  · subst h3
    rw [show ((3 : Int) != 3) = false from by decide]
    have hr := bits_range .xor 65535 a
    refine rest_of 3 a b _ _ _ (do_not .sixteen ha0 ha1 hb0 hb1) (do_not .eight ha0 ha1 hb0 hb1) (do_not .one ha0 ha1 hb0 hb1) (by omega) (by omega) ?_ ?_
    · rw [Int.emod_eq_of_lt ha0 ha1, Int.emod_eq_of_lt hr.1 hr.2]; exact (not_cut 8 a ha0 ha1).symm
    · rw [Int.emod_eq_of_lt ha0 ha1, Int.emod_eq_of_lt hr.1 hr.2]; exact (not_cut 1 a ha0 ha1).symm
  · rw [show (op != 3) = true from by simp [h3]]
    rw [show (1 : Nat) = 0 + 1 from rfl, crossroadslaw1_WideWidths.j0]
    rw [if_pos rfl]
end Go.Proofs.Ytcjoblnfbopaeaa.Pure
