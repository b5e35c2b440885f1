/- Plain lemmas on numbers of 1, 8 and 16 bits, for the statements of layer 1. -/
import Derived.Test.YtcjoblnfbopaeaaPx1
import Derived.Laws.BitsLemmas
namespace Go.Proofs.Ytcjoblnfbopaeaa.Lem
open Go.RowKit Go.Proofs.Ytcjoblnfbopaeaa.P Go.Proofs.YtcjoblnfbopaeaaW.PrintWords Go.Proofs.YtcjoblnfbopaeaaW.PrintLast Go.Proofs.YtcjoblnfbopaeaaW.PrintMore

theorem wrap_u16 (n : Int) : IntKind.u16.wrap n = n % 65536 := by simp [IntKind.wrap, IntKind.bits, IntKind.signed]
theorem wrap_u64 (n : Int) : IntKind.u64.wrap n = n % 18446744073709551616 := by simp [IntKind.wrap, IntKind.bits, IntKind.signed]
theorem wraps_u16 (n : Int) (h₀ : 0 ≤ n) (h₁ : n < 2 ^ 16) : IntKind.u16.wrap n = n := by rw [wrap_u16]; omega
theorem wf_u16 {n : Int} (h : (Lit.int .u16 n).wf = true) : 0 ≤ n ∧ n < 65536 := by
  simp [Lit.wf, IntKind.min, IntKind.max, IntKind.bits, IntKind.signed] at h
  omega
theorem wf_u8 {n : Int} (h : (Lit.int .u8 n).wf = true) : 0 ≤ n ∧ n < 256 := by
  simp [Lit.wf, IntKind.min, IntKind.max, IntKind.bits, IntKind.signed] at h
  omega
theorem and_1 (x : Int) (h₀ : 0 ≤ x) (h₁ : x < 65536) : bits .and .u16 x 1 = x % 2 := bits_mask .u16 16 (by decide) wraps_u16 1 (by decide) x h₀ h₁
theorem and_255 (x : Int) (h₀ : 0 ≤ x) (h₁ : x < 65536) : bits .and .u16 x 255 = x % 256 := bits_mask .u16 16 (by decide) wraps_u16 8 (by decide) x h₀ h₁
theorem and_65535 (x : Int) (h₀ : 0 ≤ x) (h₁ : x < 65536) : bits .and .u16 x 65535 = x % 65536 := bits_mask .u16 16 (by decide) wraps_u16 16 (by decide) x h₀ h₁

theorem mask_1 : wide_Mask.f 1 = some 1 := by rfl
theorem mask_8 : wide_Mask.f 8 = some 255 := by rfl
theorem mask_16 : wide_Mask.f 16 = some 65535 := by rfl
theorem may_1 : wide_May.f 1 = some true := by rfl
theorem may_8 : wide_May.f 8 = some true := by rfl
theorem may_16 : wide_May.f 16 = some true := by rfl

theorem bits_range (op : BinOp) (x y : Int) : 0 ≤ bits op .u16 x y ∧ bits op .u16 x y < 65536 := by
  unfold bits
  simp only [wrap_u16]
  omega

/-- A width, its mask, its modulus. -/
inductive Width : Int → Int → Int → Prop
  | one : Width 1 1 2
  | eight : Width 8 255 256
  | sixteen : Width 16 65535 65536

theorem Width.may {w m M : Int} (h : Width w m M) : wide_May.f w = some true := by cases h <;> rfl
theorem Width.mask {w m M : Int} (h : Width w m M) : wide_Mask.f w = some m := by cases h <;> rfl
theorem Width.rmay {w m M : Int} (h : Width w m M) : crossroadsref1_May.f w = some true := by cases h <;> rfl
theorem Width.rmask {w m M : Int} (h : Width w m M) : crossroadsref1_Mask.f w = some m := by cases h <;> rfl
theorem Width.and {w m M : Int} (h : Width w m M) {x : Int} (h₀ : 0 ≤ x) (h₁ : x < 65536) : bits .and .u16 x m = x % M := by
  cases h
  · exact and_1 x h₀ h₁
  · exact and_255 x h₀ h₁
  · exact and_65535 x h₀ h₁
theorem width_of {w : Int} (h : crossroadsref1_May.f w = some true) : ∃ m M, Width w m M := by
  unfold crossroadsref1_May.f at h
  split at h
  · subst_vars; exact ⟨_, _, .one⟩
  · split at h
    · subst_vars; exact ⟨_, _, .eight⟩
    · simp at h; subst h; exact ⟨_, _, .sixteen⟩
theorem rmay_some (w : Int) : ∃ b, crossroadsref1_May.f w = some b := by
  unfold crossroadsref1_May.f
  repeat' split
  all_goals exact ⟨_, rfl⟩

/-- What 'Do' makes of an operator that reckons. -/
theorem do_of {w m M : Int} (h : Width w m M) (op : Int) {a b x : Int} (ha₀ : 0 ≤ a) (ha : a < 65536) (hb₀ : 0 ≤ b) (hb : b < 65536)
    (hr : wide_reckon.f op w (a % M) (b % M) = some (x, true)) (hx₀ : 0 ≤ x) (hx : x < 65536) : wide_Do.f op w a b = some (x % M, 0) := by
  unfold wide_Do.f
  rw [h.may]; simp only [Option.bind_some, if_true]
  rw [h.mask]; simp only [Option.bind_some]
  rw [h.and ha₀ ha, h.and hb₀ hb, hr]; simp only [Option.bind_some, if_true]
  rw [h.and hx₀ hx]

theorem M_pos {w m M : Int} (h : Width w m M) : 2 ≤ M ∧ M ≤ 65536 := by cases h <;> omega

section
variable {w m M : Int} (h : Width w m M) {a b : Int} (ha₀ : 0 ≤ a) (ha : a < 65536) (hb₀ : 0 ≤ b) (hb : b < 65536)
include h ha₀ ha hb₀ hb
theorem do_not : wide_Do.f 3 w a b = some (bits .xor .u16 65535 (a % M) % M, 0) :=
  do_of h 3 ha₀ ha hb₀ hb (by rfl) (bits_range _ _ _).1 (bits_range _ _ _).2
theorem do_and : wide_Do.f 4 w a b = some (bits .and .u16 (a % M) (b % M) % M, 0) :=
  do_of h 4 ha₀ ha hb₀ hb (by rfl) (bits_range _ _ _).1 (bits_range _ _ _).2
theorem do_or : wide_Do.f 5 w a b = some (bits .or .u16 (a % M) (b % M) % M, 0) :=
  do_of h 5 ha₀ ha hb₀ hb (by rfl) (bits_range _ _ _).1 (bits_range _ _ _).2
theorem do_xor : wide_Do.f 6 w a b = some (bits .xor .u16 (a % M) (b % M) % M, 0) :=
  do_of h 6 ha₀ ha hb₀ hb (by rfl) (bits_range _ _ _).1 (bits_range _ _ _).2
theorem do_add : wide_Do.f 7 w a b = some ((a % M + b % M) % M, 0) := by
  rw [do_of h 7 ha₀ ha hb₀ hb (x := (a % M + b % M) % 65536) (by simp [wide_reckon.f, wrap_u16]) (by omega) (by omega)]
  cases h <;> simp <;> omega
theorem do_sub : wide_Do.f 8 w a b = some ((a % M - b % M) % M, 0) := by
  rw [do_of h 8 ha₀ ha hb₀ hb (x := (a % M - b % M) % 65536) (by simp [wide_reckon.f, wrap_u16]) (by omega) (by omega)]
  cases h <;> simp <;> omega
theorem do_mul : wide_Do.f 9 w a b = some ((a % M * (b % M)) % M, 0) := by
  rw [do_of h 9 ha₀ ha hb₀ hb (x := (a % M * (b % M)) % 65536) (by simp [wide_reckon.f, wrap_u16]) (by omega) (by omega)]
  cases h <;> simp only [Option.some.injEq, Prod.mk.injEq, and_true] <;> omega
theorem do_div : wide_Do.f 10 w a b = some (if b % M = 0 then m % M else (a % M) / (b % M), 0) := by
  have hM := M_pos h
  have h1 := Int.emod_nonneg a (show M ≠ 0 by omega)
  have h2 := Int.emod_nonneg b (show M ≠ 0 by omega)
  have h3 := Int.emod_lt_of_pos a (show 0 < M by omega)
  by_cases hz : b % M = 0
  · rw [if_pos hz, do_of h 10 ha₀ ha hb₀ hb (x := m) (by simp [wide_reckon.f, wide_divided.f, hz, h.mask]) (by cases h <;> omega) (by cases h <;> omega)]
  · have h5 : 0 ≤ (a % M) / (b % M) := Int.ediv_nonneg h1 h2
    have h6 : (a % M) / (b % M) ≤ a % M := Int.ediv_le_self _ h1
    rw [if_neg hz, do_of h 10 ha₀ ha hb₀ hb (x := (a % M) / (b % M)) (by
      simp [wide_reckon.f, wide_divided.f, hz, wrap_u16]
      rw [Int.tdiv_eq_ediv_of_nonneg h1]
      omega) h5 (by omega)]
    rw [Int.emod_eq_of_lt h5 (by omega)]
theorem do_mod : wide_Do.f 11 w a b = some (if b % M = 0 then a % M else (a % M) % (b % M), 0) := by
  have hM := M_pos h
  have h1 := Int.emod_nonneg a (show M ≠ 0 by omega)
  have h2 := Int.emod_nonneg b (show M ≠ 0 by omega)
  have h3 := Int.emod_lt_of_pos a (show 0 < M by omega)
  by_cases hz : b % M = 0
  · rw [if_pos hz, do_of h 11 ha₀ ha hb₀ hb (x := a % M) (by simp [wide_reckon.f, wide_rest.f, hz]) h1 (by omega)]
    rw [Int.emod_eq_of_lt h1 h3]
  · have h4 : 0 < b % M := by omega
    have h5 : 0 ≤ (a % M) % (b % M) := Int.emod_nonneg _ hz
    have h6 : (a % M) % (b % M) ≤ a % M := by
      by_cases hl : a % M < b % M
      · rw [Int.emod_eq_of_lt h1 hl]; exact Int.le_refl _
      · have := Int.emod_lt_of_pos (a % M) h4; omega
    rw [if_neg hz, do_of h 11 ha₀ ha hb₀ hb (x := (a % M) % (b % M)) (by
      simp [wide_reckon.f, wide_rest.f, hz]
      rw [Int.tmod_eq_emod_of_nonneg h1]) h5 (by omega)]
    rw [Int.emod_eq_of_lt h5 (by omega)]
theorem do_shl : wide_Do.f 12 w a b = some (shl .u16 (a % M) (b % M) % M, 0) := by
  have hM := M_pos h
  have h2 := Int.emod_nonneg b (show M ≠ 0 by omega)
  exact do_of h 12 ha₀ ha hb₀ hb (by simp [wide_reckon.f, h2]) (by unfold shl; rw [wrap_u16]; omega) (by unfold shl; rw [wrap_u16]; omega)
theorem do_shr : wide_Do.f 13 w a b = some (shr .u16 (a % M) (b % M), 0) := by
  have hM := M_pos h
  have h1 := Int.emod_nonneg a (show M ≠ 0 by omega)
  have h2 := Int.emod_nonneg b (show M ≠ 0 by omega)
  have h3 := Int.emod_lt_of_pos a (show 0 < M by omega)
  have h5 : 0 ≤ shr .u16 (a % M) (b % M) := Int.ediv_nonneg h1 (Int.le_of_lt (Int.pow_pos (by decide)))
  have h6 : shr .u16 (a % M) (b % M) ≤ a % M := Int.ediv_le_self _ h1
  rw [do_of h 13 ha₀ ha hb₀ hb (x := shr .u16 (a % M) (b % M)) (by simp [wide_reckon.f, h2]) h5 (by omega)]
  rw [Int.emod_eq_of_lt h5 (by omega)]
theorem do_eq : wide_Do.f 14 w a b = some (if a % M = b % M then 1 else 0, 0) := by
  have hM := M_pos h
  by_cases he : a % M = b % M
  · rw [if_pos he, do_of h 14 ha₀ ha hb₀ hb (x := 1) (by simp [wide_reckon.f, wide_truth.f, he]) (by omega) (by omega)]
    rw [Int.emod_eq_of_lt (by omega) (by omega)]
  · rw [if_neg he, do_of h 14 ha₀ ha hb₀ hb (x := 0) (by simp [wide_reckon.f, wide_truth.f, he]) (by omega) (by omega)]
    rw [Int.emod_eq_of_lt (by omega) (by omega)]
theorem do_lt : wide_Do.f 15 w a b = some (if a % M < b % M then 1 else 0, 0) := by
  have hM := M_pos h
  by_cases he : a % M < b % M
  · rw [if_pos he, do_of h 15 ha₀ ha hb₀ hb (x := 1) (by simp [wide_reckon.f, wide_truth.f, he]) (by omega) (by omega)]
    rw [Int.emod_eq_of_lt (by omega) (by omega)]
  · rw [if_neg he, do_of h 15 ha₀ ha hb₀ hb (x := 0) (by simp [wide_reckon.f, wide_truth.f, he]) (by omega) (by omega)]
    rw [Int.emod_eq_of_lt (by omega) (by omega)]
end
theorem awake_true : crossroadslaw1_awake.f = some true := by kernel_rfl
end Go.Proofs.Ytcjoblnfbopaeaa.Lem
