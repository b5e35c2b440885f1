/- Plain lemmas on and, or, xor of numbers of 16 bits, for the statements of layer 1. -/
import Derived.Test.YtcjoblnfbopaeaaWideLem
namespace Go.Proofs.Ytcjoblnfbopaeaa.Lem
open Go.RowKit Go.Proofs.Ytcjoblnfbopaeaa.P Go.Proofs.YtcjoblnfbopaeaaW.PrintWords Go.Proofs.YtcjoblnfbopaeaaW.PrintLast Go.Proofs.YtcjoblnfbopaeaaW.PrintMore

theorem xor_of_nat (k : IntKind) (j : Nat) (hj : j ≤ k.bits) (hk : ∀ n : Int, 0 ≤ n → n < 2 ^ j → k.wrap n = n) (a b : Nat) (ha : a < 2 ^ j) (hb : b < 2 ^ j) :
    bits .xor k a b = ((a ^^^ b : Nat) : Int) := by
  have hp : 2 ^ j ≤ 2 ^ k.bits := Nat.pow_le_pow_right (by decide) hj
  have ha' : a % 2 ^ k.bits = a := Nat.mod_eq_of_lt (Nat.lt_of_lt_of_le ha hp)
  have hb' : b % 2 ^ k.bits = b := Nat.mod_eq_of_lt (Nat.lt_of_lt_of_le hb hp)
  simp only [bits, BitVec.ofInt_natCast, BitVec.toNat_xor, BitVec.toNat_ofNat, ha', hb']
  exact hk _ (Int.natCast_nonneg _) (by exact_mod_cast Nat.xor_lt_two_pow ha hb)
theorem bits_of_nat (a b : Nat) (ha : a < 65536) (hb : b < 65536) :
    bits .and .u16 a b = ((a &&& b : Nat) : Int) ∧ bits .or .u16 a b = ((a ||| b : Nat) : Int) ∧ bits .xor .u16 a b = ((a ^^^ b : Nat) : Int) :=
  ⟨(bits_nat .u16 16 (by decide) wraps_u16 a b ha hb).1, (bits_nat .u16 16 (by decide) wraps_u16 a b ha hb).2, xor_of_nat .u16 16 (by decide) wraps_u16 a b ha hb⟩

theorem xor_below (j x : Nat) (h : x < 2 ^ j) : x ^^^ 2 ^ j = 2 ^ j + x := by
  apply Nat.eq_of_testBit_eq
  intro i
  rw [Nat.testBit_xor]
  rcases Nat.lt_trichotomy i j with hi | rfl | hi
  · rw [Nat.testBit_two_pow_add_gt hi, Nat.testBit_two_pow, decide_eq_false (show ¬ j = i by omega), Bool.xor_false]
  · rw [Nat.testBit_two_pow_add_eq, Nat.testBit_two_pow, Nat.testBit_lt_two_pow h]
    simp
  · have h1 : x < 2 ^ i := Nat.lt_of_lt_of_le h (Nat.pow_le_pow_right (by decide) (Nat.le_of_lt hi))
    have h2 : 2 ^ j + x < 2 ^ i := by
      have : 2 ^ (j + 1) ≤ 2 ^ i := Nat.pow_le_pow_right (by decide) hi
      rw [Nat.pow_succ] at this
      omega
    rw [Nat.testBit_lt_two_pow h1, Nat.testBit_lt_two_pow h2, Nat.testBit_two_pow, decide_eq_false (show ¬ j = i by omega)]
    rfl
theorem xor_above (j x : Nat) (h0 : 2 ^ j ≤ x) (h : x < 2 ^ (j + 1)) : x ^^^ 2 ^ j = x - 2 ^ j := by
  have h1 : x - 2 ^ j < 2 ^ j := by rw [Nat.pow_succ] at h; omega
  have h2 := xor_below j (x - 2 ^ j) h1
  have h3 : 2 ^ j + (x - 2 ^ j) = x := by omega
  rw [h3] at h2
  have h4 : x ^^^ 2 ^ j = ((x - 2 ^ j) ^^^ 2 ^ j) ^^^ 2 ^ j := by rw [h2]
  rw [h4, Nat.xor_assoc, Nat.xor_self, Nat.xor_zero]

/-- The highest bit, turned. -/
theorem top_turned (j : Nat) (hj : j < 16) (a : Int) (h0 : 0 ≤ a) (h1 : a < 65536) :
    bits .xor .u16 a ((2 ^ j : Nat) : Int) % ((2 ^ (j + 1) : Nat) : Int) = (a % ((2 ^ (j + 1) : Nat) : Int) + ((2 ^ j : Nat) : Int)) % ((2 ^ (j + 1) : Nat) : Int) := by
  obtain ⟨n, rfl⟩ := Int.eq_ofNat_of_zero_le h0
  have hp : 2 ^ j < 65536 := by
    have : 2 ^ j < 2 ^ 16 := Nat.pow_lt_pow_right (by decide) hj
    omega
  have hn : n < 65536 := by omega
  rw [(bits_of_nat n (2 ^ j) hn hp).2.2]
  have key : (n ^^^ 2 ^ j) % 2 ^ (j + 1) = (n % 2 ^ (j + 1) + 2 ^ j) % 2 ^ (j + 1) := by
    rw [Nat.xor_mod_two_pow]
    have hlt : n % 2 ^ (j + 1) < 2 ^ (j + 1) := Nat.mod_lt _ (Nat.two_pow_pos _)
    have hs : 2 ^ (j + 1) = 2 * 2 ^ j := by rw [Nat.pow_succ]; omega
    have hj2 : 2 ^ j % 2 ^ (j + 1) = 2 ^ j := Nat.mod_eq_of_lt (by rw [hs]; have := Nat.two_pow_pos j; omega)
    rw [hj2]
    by_cases hl : n % 2 ^ (j + 1) < 2 ^ j
    · rw [xor_below j _ hl, Nat.mod_eq_of_lt (a := n % 2 ^ (j + 1) + 2 ^ j) (by omega)]
      omega
    · rw [xor_above j _ (by omega) hlt]
      have : n % 2 ^ (j + 1) + 2 ^ j = (n % 2 ^ (j + 1) - 2 ^ j) + 2 ^ (j + 1) := by omega
      rw [this, Nat.add_mod_right, Nat.mod_eq_of_lt (Nat.lt_of_le_of_lt (Nat.sub_le _ _) hlt)]
  exact_mod_cast key

/-- and, or, xor at 16 bits, cut, are those at fewer. -/
theorem bits_cut (i : Nat) (a b : Int) (ha0 : 0 ≤ a) (ha1 : a < 65536) (hb0 : 0 ≤ b) (hb1 : b < 65536) (op : BinOp) (hop : op = .and ∨ op = .or ∨ op = .xor) :
    bits op .u16 a b % ((2 ^ i : Nat) : Int) = bits op .u16 (a % ((2 ^ i : Nat) : Int)) (b % ((2 ^ i : Nat) : Int)) % ((2 ^ i : Nat) : Int) := by
  obtain ⟨n, rfl⟩ := Int.eq_ofNat_of_zero_le ha0
  obtain ⟨m, rfl⟩ := Int.eq_ofNat_of_zero_le hb0
  have hn : n < 65536 := by omega
  have hm : m < 65536 := by omega
  have hn2 : n % 2 ^ i < 65536 := Nat.lt_of_le_of_lt (Nat.mod_le _ _) hn
  have hm2 : m % 2 ^ i < 65536 := Nat.lt_of_le_of_lt (Nat.mod_le _ _) hm
  have e1 : ((n : Int) % ((2 ^ i : Nat) : Int)) = ((n % 2 ^ i : Nat) : Int) := by rw [Int.natCast_emod]
  have e2 : ((m : Int) % ((2 ^ i : Nat) : Int)) = ((m % 2 ^ i : Nat) : Int) := by rw [Int.natCast_emod]
  rw [e1, e2]
  obtain ⟨p1, p2, p3⟩ := bits_of_nat n m hn hm
  obtain ⟨q1, q2, q3⟩ := bits_of_nat _ _ hn2 hm2
  rcases hop with rfl | rfl | rfl
  · rw [p1, q1, ← Int.natCast_emod, ← Int.natCast_emod, Nat.and_mod_two_pow, Nat.and_mod_two_pow (a := n % 2 ^ i), Nat.mod_mod, Nat.mod_mod]
  · rw [p2, q2, ← Int.natCast_emod, ← Int.natCast_emod, Nat.or_mod_two_pow, Nat.or_mod_two_pow (a := n % 2 ^ i), Nat.mod_mod, Nat.mod_mod]
  · rw [p3, q3, ← Int.natCast_emod, ← Int.natCast_emod, Nat.xor_mod_two_pow, Nat.xor_mod_two_pow (a := n % 2 ^ i), Nat.mod_mod, Nat.mod_mod]
end Go.Proofs.Ytcjoblnfbopaeaa.Lem
