/- WideDoes: any operator, any width, any two numbers: what comes, of what width, or why nothing, as the reference has it. For every input. -/
import Derived.Test.YtcjoblnfbopaeaaPx4
import Derived.Test.YtcjoblnfbopaeaaPureWideShifts
import Derived.Test.YtcjoblnfbopaeaaPureWideWidths
namespace Go.Proofs.Ytcjoblnfbopaeaa.Pure
set_option linter.unusedVariables false
open Go.RowKit Go.Proofs.Ytcjoblnfbopaeaa.P Go.Proofs.Ytcjoblnfbopaeaa.Lem Go.Proofs.YtcjoblnfbopaeaaW.PrintWords Go.Proofs.YtcjoblnfbopaeaaW.PrintLast Go.Proofs.YtcjoblnfbopaeaaW.PrintMore

theorem and64 (z : Int) (i : Nat) (hi : i ≤ 16) : bits .and .i64 z ((2 ^ i - 1 : Nat) : Int) = z % ((2 ^ i : Nat) : Int) := by
  have hp : 2 ^ i ≤ 65536 := by
    have : 2 ^ i ≤ 2 ^ 16 := Nat.pow_le_pow_right (by decide) hi
    omega
  have hp0 : 0 < 2 ^ i := Nat.two_pow_pos i
  have hm : (2 ^ i - 1) % 2 ^ 64 = 2 ^ i - 1 := Nat.mod_eq_of_lt (by omega)
  have hk : ∀ n : Int, 0 ≤ n → n < 65536 → IntKind.i64.wrap n = n := by
    intro n h0 h1; rw [IntKind.wrap_i64]; omega
  have e : ((BitVec.ofInt 64 z &&& BitVec.ofInt 64 ((2 ^ i - 1 : Nat) : Int)).toNat) = ((z % ((2 ^ 64 : Nat) : Int)).toNat) % 2 ^ i := by
    rw [BitVec.toNat_and, BitVec.toNat_ofInt, BitVec.ofInt_natCast, BitVec.toNat_ofNat, hm, Nat.and_two_pow_sub_one_eq_mod]
  have e2 : ((((z % ((2 ^ 64 : Nat) : Int)).toNat) % 2 ^ i : Nat) : Int) = z % ((2 ^ i : Nat) : Int) := by
    have h0 : 0 ≤ z % ((2 ^ 64 : Nat) : Int) := Int.emod_nonneg _ (by decide)
    rw [Int.natCast_emod, Int.toNat_of_nonneg h0]
    apply Int.emod_emod_of_dvd
    exact_mod_cast Nat.pow_dvd_pow 2 (by omega : i ≤ 64)
  show IntKind.i64.wrap ((BitVec.ofInt 64 z &&& BitVec.ofInt 64 ((2 ^ i - 1 : Nat) : Int)).toNat : Int) = _
  rw [e, e2]
  have h1 : 0 ≤ z % ((2 ^ i : Nat) : Int) := Int.emod_nonneg _ (by omega)
  have h2 : z % ((2 ^ i : Nat) : Int) < ((2 ^ i : Nat) : Int) := Int.emod_lt_of_pos _ (by omega)
  exact hk _ h1 (by omega)

/-- A width's place. -/
theorem wd {w m M : Int} (h : Width w m M) : ∃ i : Nat, i ≤ 16 ∧ w = i ∧ M = ((2 ^ i : Nat) : Int) ∧ m = ((2 ^ i - 1 : Nat) : Int) := by
  cases h
  · exact ⟨1, by decide, rfl, rfl, rfl⟩
  · exact ⟨8, by decide, rfl, rfl, rfl⟩
  · exact ⟨16, by decide, rfl, rfl, rfl⟩
theorem w64 {n : Int} (h0 : -10000000000 ≤ n) (h1 : n ≤ 10000000000) : wrap64 n = n := by unfold wrap64; omega
theorem u16m {w m M : Int} (h : Width w m M) (z : Int) : IntKind.u16.wrap (z % M) = z % M := by
  have hM := M_pos h
  have h1 := Int.emod_nonneg z (show M ≠ 0 by omega)
  have h2 := Int.emod_lt_of_pos z (show 0 < M by omega)
  rw [wrap_u16]; omega

theorem ref_do {w m M : Int} (h : Width w m M) (op a b : Int) (ha0 : 0 ≤ a) (ha : a < 65536) (hb0 : 0 ≤ b) (hb : b < 65536) :
    ∃ x e, wide_Do.f op w a b = some (x, e) ∧ crossroadsref1_Do.f op w a b = some (x, e) ∧ e = (if 3 ≤ op ∧ op ≤ 15 then 0 else 5) := by
  have hM := M_pos h
  have hdvd := M_dvd h
  obtain ⟨i, hi16, hwi, hMi, hmi⟩ := wd h
  have hx0 : 0 ≤ a % M := Int.emod_nonneg _ (by omega)
  have hx1 : a % M < M := Int.emod_lt_of_pos _ (by omega)
  have hy0 : 0 ≤ b % M := Int.emod_nonneg _ (by omega)
  have hy1 : b % M < M := Int.emod_lt_of_pos _ (by omega)
  have wa : wrap64 (a % M) = a % M := w64 (by omega) (by omega)
  have wb : wrap64 (b % M) = b % M := w64 (by omega) (by omega)
  have hm0 : 0 ≤ m ∧ m < 65536 ∧ m < M ∧ m % M = m := by
    have : m = M - 1 := by cases h <;> rfl
    refine ⟨by omega, by omega, by omega, Int.emod_eq_of_lt (by omega) (by omega)⟩
  have wm : wrap64 m = m := w64 (by omega) (by omega)
  have a64 : ∀ z : Int, bits .and .i64 z m = z % M := by intro z; rw [hmi, hMi]; exact and64 z i hi16
  have cut : ∀ o : BinOp, (o = .and ∨ o = .or ∨ o = .xor) → bits .and .u16 (bits o .u16 a b) m = bits o .u16 (a % M) (b % M) % M := by
    intro o ho
    rw [h.and (bits_range _ _ _).1 (bits_range _ _ _).2, hMi]
    exact bits_cut i a b ha0 ha hb0 hb o ho
  have unf : ∀ r, (crossroadsref1_Do.f op w a b = r ↔ (if op = 3 then (some (Go.bits .and .u16 (Go.bits .xor .u16 65535 a) m, 0)) else (if op = 4 then (some (Go.bits .and .u16 (Go.bits .and .u16 a b) m, 0)) else (if op = 5 then (some (Go.bits .and .u16 (Go.bits .or .u16 a b) m, 0)) else (if op = 6 then (some (Go.bits .and .u16 (Go.bits .xor .u16 a b) m, 0)) else (if op = 7 then (some (IntKind.u16.wrap (Go.bits .and .i64 (wrap64 ((a % M) + (b % M))) m), 0)) else (if op = 8 then (some (IntKind.u16.wrap (Go.bits .and .i64 (wrap64 ((a % M) - (b % M))) m), 0)) else (if op = 9 then (some (IntKind.u16.wrap (Go.bits .and .i64 (wrap64 ((a % M) * (b % M))) m), 0)) else (if op = 10 then (if b % M = 0 then (some (m, 0)) else (some (IntKind.u16.wrap (wrap64 (Int.tdiv (a % M) (b % M))), 0))) else (if op = 11 then (if b % M = 0 then (some (IntKind.u16.wrap (a % M), 0)) else (some (IntKind.u16.wrap (Int.tmod (a % M) (b % M)), 0))) else (if op = 12 then (if b % M ≥ w then (some (0, 0)) else (if 0 ≤ (IntKind.u64.wrap (b % M)) then (some (IntKind.u16.wrap (Go.bits .and .i64 (shl .i64 (a % M) (IntKind.u64.wrap (b % M))) m), 0)) else (none))) else (if op = 13 then (if b % M ≥ w then (some (0, 0)) else (if 0 ≤ (IntKind.u64.wrap (b % M)) then (some (IntKind.u16.wrap (shr .i64 (a % M) (IntKind.u64.wrap (b % M))), 0)) else (none))) else (if op = 14 then ((crossroadsref1_bit.f ((a % M) == (b % M))).bind fun t179 => (some (t179, 0))) else (if op = 15 then ((crossroadsref1_bit.f (decide ((a % M) < (b % M)))).bind fun t180 => (some (t180, 0))) else (some (0, 5))))))))))))))) = r) := by
    intro r
    unfold crossroadsref1_Do.f
    rw [h.rmay, Option.bind_some, if_pos rfl, h.rmask, Option.bind_some, h.and ha0 ha, h.and hb0 hb, wa, wb, wm]
  have uw : IntKind.u64.wrap (b % M) = b % M := by rw [wrap_u64]; omega
  by_cases h3 : op = 3
  · subst h3
    refine ⟨_, 0, do_not h ha0 ha hb0 hb, (unf _).2 ?_, rfl⟩
    rw [if_pos rfl, h.and (bits_range _ _ _).1 (bits_range _ _ _).2, hMi, not_cut i a ha0 ha]
  by_cases h4 : op = 4
  · subst h4
    refine ⟨_, 0, do_and h ha0 ha hb0 hb, (unf _).2 ?_, rfl⟩
    rw [if_neg (by decide), if_pos rfl, cut .and (by simp)]
  by_cases h5 : op = 5
  · subst h5
    refine ⟨_, 0, do_or h ha0 ha hb0 hb, (unf _).2 ?_, rfl⟩
    rw [if_neg (by decide), if_neg (by decide), if_pos rfl, cut .or (by simp)]
  by_cases h6 : op = 6
  · subst h6
    refine ⟨_, 0, do_xor h ha0 ha hb0 hb, (unf _).2 ?_, rfl⟩
    rw [if_neg (by decide), if_neg (by decide), if_neg (by decide), if_pos rfl, cut .xor (by simp)]
  by_cases h7 : op = 7
  · subst h7
    refine ⟨_, 0, do_add h ha0 ha hb0 hb, (unf _).2 ?_, rfl⟩
    rw [if_neg (by decide), if_neg (by decide), if_neg (by decide), if_neg (by decide), if_pos rfl, w64 (by omega) (by omega), a64, u16m h]
  by_cases h8 : op = 8
  · subst h8
    refine ⟨_, 0, do_sub h ha0 ha hb0 hb, (unf _).2 ?_, rfl⟩
    rw [if_neg (by decide), if_neg (by decide), if_neg (by decide), if_neg (by decide), if_neg (by decide), if_pos rfl, w64 (by omega) (by omega), a64, u16m h]
  by_cases h9 : op = 9
  · subst h9
    refine ⟨_, 0, do_mul h ha0 ha hb0 hb, (unf _).2 ?_, rfl⟩
    have hle : a % M * (b % M) ≤ 65536 * 65536 := Int.mul_le_mul (by omega) (by omega) hy0 (by decide)
    have hge : 0 ≤ a % M * (b % M) := Int.mul_nonneg hx0 hy0
    rw [if_neg (by decide), if_neg (by decide), if_neg (by decide), if_neg (by decide), if_neg (by decide), if_neg (by decide), if_pos rfl, w64 (by omega) (by omega), a64, u16m h]
  by_cases h10 : op = 10
  · subst h10
    refine ⟨_, 0, do_div h ha0 ha hb0 hb, (unf _).2 ?_, rfl⟩
    rw [if_neg (by decide), if_neg (by decide), if_neg (by decide), if_neg (by decide), if_neg (by decide), if_neg (by decide), if_neg (by decide), if_pos rfl]
    by_cases hz : b % M = 0
    · rw [if_pos hz, if_pos hz, hm0.2.2.2]
    · have h5' : 0 ≤ (a % M) / (b % M) := Int.ediv_nonneg hx0 hy0
      have h6' : (a % M) / (b % M) ≤ a % M := Int.ediv_le_self _ hx0
      rw [if_neg hz, if_neg hz, Int.tdiv_eq_ediv_of_nonneg hx0, w64 (by omega) (by omega), wrap_u16, Int.emod_eq_of_lt h5' (by omega)]
  by_cases h11 : op = 11
  · subst h11
    refine ⟨_, 0, do_mod h ha0 ha hb0 hb, (unf _).2 ?_, rfl⟩
    rw [if_neg (by decide), if_neg (by decide), if_neg (by decide), if_neg (by decide), if_neg (by decide), if_neg (by decide), if_neg (by decide), if_neg (by decide), if_pos rfl]
    by_cases hz : b % M = 0
    · rw [if_pos hz, if_pos hz, u16m h]
    · have h4' : 0 < b % M := by omega
      have h5' : 0 ≤ (a % M) % (b % M) := Int.emod_nonneg _ hz
      have h6' := Int.emod_lt_of_pos (a % M) h4'
      rw [if_neg hz, if_neg hz, Int.tmod_eq_emod_of_nonneg hx0, wrap_u16, Int.emod_eq_of_lt h5' (by omega)]
  have hb64 : IntKind.i64.bits = 64 := rfl
  have hb16 : IntKind.u16.bits = 16 := rfl
  by_cases h12 : op = 12
  · subst h12
    refine ⟨_, 0, do_shl h ha0 ha hb0 hb, (unf _).2 ?_, rfl⟩
    rw [if_neg (by decide), if_neg (by decide), if_neg (by decide), if_neg (by decide), if_neg (by decide), if_neg (by decide), if_neg (by decide), if_neg (by decide), if_neg (by decide), if_pos rfl]
    by_cases hge : b % M ≥ w
    · rw [if_pos hge, shl_beyond h _ _ hge]
    · have hn16 : (b % M).toNat ≤ 16 := by omega
      have hp : (2 : Int) ^ (b % M).toNat ≤ 65536 := by
        have t1 : (2 : Nat) ^ (b % M).toNat ≤ 65536 := Nat.le_trans (Nat.pow_le_pow_right (by decide) hn16) (by decide)
        have t2 := Int.ofNat_le.2 t1
        rw [Int.natCast_pow] at t2
        exact t2
      have hp0 : (0 : Int) < 2 ^ (b % M).toNat := Int.pow_pos (by decide)
      have hle : a % M * 2 ^ (b % M).toNat ≤ 65536 * 65536 := Int.mul_le_mul (by omega) hp (by omega) (by decide)
      have hge0 : 0 ≤ a % M * 2 ^ (b % M).toNat := Int.mul_nonneg hx0 (by omega)
      have e1 : shl .i64 (a % M) (b % M) = a % M * 2 ^ (b % M).toNat := by
        unfold shl
        rw [hb64, Nat.min_eq_left (by omega), IntKind.wrap_i64]
        omega
      have e2 : shl .u16 (a % M) (b % M) % M = a % M * 2 ^ (b % M).toNat % M := by
        unfold shl
        rw [hb16, Nat.min_eq_left hn16, wrap_u16]
        exact Int.emod_emod_of_dvd _ hdvd
      rw [if_neg hge, uw, if_pos hy0, e1, a64, u16m h, e2]
  by_cases h13 : op = 13
  · subst h13
    refine ⟨_, 0, do_shr h ha0 ha hb0 hb, (unf _).2 ?_, rfl⟩
    rw [if_neg (by decide), if_neg (by decide), if_neg (by decide), if_neg (by decide), if_neg (by decide), if_neg (by decide), if_neg (by decide), if_neg (by decide), if_neg (by decide), if_neg (by decide), if_pos rfl]
    by_cases hge : b % M ≥ w
    · rw [if_pos hge, shr_beyond h _ _ hx0 hx1 hge]
    · have hn16 : (b % M).toNat ≤ 16 := by omega
      have hp0 : (0 : Int) < 2 ^ (b % M).toNat := Int.pow_pos (by decide)
      have h5' : 0 ≤ a % M / 2 ^ (b % M).toNat := Int.ediv_nonneg hx0 (by omega)
      have h6' : a % M / 2 ^ (b % M).toNat ≤ a % M := Int.ediv_le_self _ hx0
      have e1 : shr .i64 (a % M) (b % M) = a % M / 2 ^ (b % M).toNat := by
        unfold shr
        rw [hb64, Nat.min_eq_left (by omega)]
      have e2 : shr .u16 (a % M) (b % M) = a % M / 2 ^ (b % M).toNat := by
        unfold shr
        rw [hb16, Nat.min_eq_left hn16]
      rw [if_neg hge, uw, if_pos hy0, e1, e2, wrap_u16, Int.emod_eq_of_lt h5' (by omega)]
  by_cases h14 : op = 14
  · subst h14
    refine ⟨_, 0, do_eq h ha0 ha hb0 hb, (unf _).2 ?_, rfl⟩
    rw [if_neg (by decide), if_neg (by decide), if_neg (by decide), if_neg (by decide), if_neg (by decide), if_neg (by decide), if_neg (by decide), if_neg (by decide), if_neg (by decide), if_neg (by decide), if_neg (by decide), if_pos rfl]
    unfold crossroadsref1_bit.f
    by_cases he : a % M = b % M
    · rw [if_pos (by simpa using he), if_pos he]; rfl
    · rw [if_neg (by simpa using he), if_neg he]; rfl
  by_cases h15 : op = 15
  · subst h15
    refine ⟨_, 0, do_lt h ha0 ha hb0 hb, (unf _).2 ?_, rfl⟩
    rw [if_neg (by decide), if_neg (by decide), if_neg (by decide), if_neg (by decide), if_neg (by decide), if_neg (by decide), if_neg (by decide), if_neg (by decide), if_neg (by decide), if_neg (by decide), if_neg (by decide), if_neg (by decide), if_pos rfl]
    unfold crossroadsref1_bit.f
    by_cases he : a % M < b % M
    · rw [if_pos (by simpa using he), if_pos he]; rfl
    · rw [if_neg (by simpa using he), if_neg he]; rfl
  refine ⟨0, 5, ?_, (unf _).2 ?_, by rw [if_neg (by omega)]⟩
  · unfold wide_Do.f
    rw [h.may, Option.bind_some, if_pos rfl, h.mask, Option.bind_some]
    unfold wide_reckon.f
    rw [if_neg h3, if_neg h4, if_neg h5, if_neg h6, if_neg h7, if_neg h8, if_neg h9, if_neg h10, if_neg h11, if_neg h12, if_neg h13, if_neg h14, if_neg h15, Option.bind_some, if_neg (by decide)]
  · rw [if_neg h3, if_neg h4, if_neg h5, if_neg h6, if_neg h7, if_neg h8, if_neg h9, if_neg h10, if_neg h11, if_neg h12, if_neg h13, if_neg h14, if_neg h15]

theorem may_same (w : Int) : wide_May.f w = crossroadsref1_May.f w := rfl
theorem mask_same (w : Int) : wide_Mask.f w = crossroadsref1_Mask.f w := rfl

theorem does_j2 (op w x e out : Int) (ho : wide_Out.f op w = some out) : ∀ k, crossroadslaw1_WideDoes.j2 (k + 1) op w x e x e out = some true := by
  intro k
  obtain ⟨b, hb⟩ := rmay_some w
  have hm : ∃ q, crossroadsref1_Mask.f w = some q := by
    cases b with
    | false => exact ⟨0, by unfold crossroadsref1_Mask.f; rw [hb, Option.bind_some, if_neg (by decide)]⟩
    | true => obtain ⟨m, M, h⟩ := width_of hb; exact ⟨m, h.rmask⟩
  obtain ⟨q, hq⟩ := hm
  rw [crossroadslaw1_WideDoes.j2, if_pos rfl, if_pos rfl, ho, Option.bind_some, if_pos rfl, may_same, hb, Option.bind_some, Option.bind_some, if_pos (by simp), mask_same, hq, Option.bind_some, Option.bind_some]
  simp

theorem WideDoes : crossroadslaw1_WideDoes.Pure := by
  intro op w a b hop hw ha hb
  obtain ⟨ha0, ha1⟩ := wf_u16 ha
  obtain ⟨hb0, hb1⟩ := wf_u16 hb
  refine ⟨4, ?_⟩
  -- what both answer
  have key : ∃ x e out, wide_Do.f op w a b = some (x, e) ∧ crossroadsref1_Do.f op w a b = some (x, e) ∧ wide_Out.f op w = some out ∧ out = (if e = 0 then (if op = 14 ∨ op = 15 then 1 else w) else 0) := by
    obtain ⟨ok, hok⟩ := rmay_some w
    cases ok with
    | false =>
      refine ⟨0, 2, 0, ?_, ?_, ?_, rfl⟩
      · unfold wide_Do.f; rw [may_same, hok, Option.bind_some, if_neg (by decide)]
      · unfold crossroadsref1_Do.f; rw [hok, Option.bind_some, if_neg (by decide)]
      · unfold wide_Out.f wide_Do.f
        rw [may_same, hok, Option.bind_some, if_neg (by decide), Option.bind_some, if_neg (by decide)]
    | true =>
      obtain ⟨m, M, h⟩ := width_of hok
      obtain ⟨x, e, h1, h2, h3⟩ := ref_do h op a b ha0 ha1 hb0 hb1
      obtain ⟨x0, e0, g1, g2, g3⟩ := ref_do h op 0 0 (by decide) (by decide) (by decide) (by decide)
      refine ⟨x, e, _, h1, h2, ?_, rfl⟩
      unfold wide_Out.f
      rw [g1, Option.bind_some]
      show (if e0 = 0 then _ else _) = _
      have he : e0 = e := by rw [g3, h3]
      rw [he]
      by_cases hz : e = 0
      · rw [if_pos hz, if_pos hz]
        by_cases q1 : op = 14
        · rw [if_pos q1, if_pos (.inl q1)]
        · rw [if_neg q1]
          by_cases q2 : op = 15
          · rw [if_pos q2, if_pos (.inr q2)]
          · rw [if_neg q2, if_neg (by omega)]
      · rw [if_neg hz, if_neg hz]
  obtain ⟨x, e, out, h1, h2, h3, h4⟩ := key
  unfold crossroadslaw1_WideDoes.f
  rw [awake_true, Option.bind_some, if_pos rfl, h1, Option.bind_some, h2, Option.bind_some]
  have j1 : ∀ o, (e = 0 → o = out) → crossroadslaw1_WideDoes.j1 3 op w x e x e o = some true := by
    intro o ho
    rw [show (3 : Nat) = 2 + 1 from rfl, crossroadslaw1_WideDoes.j1]
    by_cases hz : e = 0
    · rw [if_pos hz, ho hz]; exact does_j2 op w x e out h3 1
    · rw [if_neg hz]
      rw [if_neg hz] at h4
      subst h4
      exact does_j2 op w x e 0 h3 1
  by_cases q1 : op = 14
  · rw [if_pos q1]
    show crossroadslaw1_WideDoes.j0 (3 + 1) op w x e x e w true = some true
    rw [crossroadslaw1_WideDoes.j0, if_pos rfl]
    exact j1 1 (fun hz => by rw [h4, if_pos hz, if_pos (.inl q1)])
  · rw [if_neg q1]
    show crossroadslaw1_WideDoes.j0 (3 + 1) op w x e x e w (op == 15) = some true
    rw [crossroadslaw1_WideDoes.j0]
    by_cases q2 : op = 15
    · rw [if_pos (by simpa using q2)]
      exact j1 1 (fun hz => by rw [h4, if_pos hz, if_pos (.inr q2)])
    · rw [if_neg (by simpa using q2)]
      exact j1 w (fun hz => by rw [h4, if_pos hz, if_neg (by omega)])
end Go.Proofs.Ytcjoblnfbopaeaa.Pure
