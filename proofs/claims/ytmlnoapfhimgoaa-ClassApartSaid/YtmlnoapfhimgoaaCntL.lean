/- The count of a class in closed words: a product, cut at 2^40. Plain. -/
import Derived.Test.YtmlnoapfhimgoaaRefC
import Derived.Test.YtmlnoapfhimgoaaPx4
namespace Go.Proofs.Ytmlnoapfhimgoaa.Pure
set_option linter.unusedVariables false
set_option linter.unusedSimpArgs false
open Go.RowKit Go.Proofs.Ytmlnoapfhimgoaa.G Go.Proofs.Ytmlnoapfhimgoaa.Tree Go.Proofs.Ytmlnoapfhimgoaa.Cls Go.Proofs.Ytmlnoapfhimgoaa.P Go.Proofs.YtmlnoapfhimgoaaW.PrintWords Go.Proofs.YtmlnoapfhimgoaaW.PrintLast Go.Proofs.YtmlnoapfhimgoaaW.PrintMore
theorem small_l0 (t : List S38) (l : List Int) (a b c : Int) (hz : t.length ≤ 4398046511104) : ∀ (d : Nat) (n : Int) (i : Nat), i + d = t.length → ∃ r, Ev (fun k => crossroadslaw17_Small.l0 k n i t l a b c) r
  | 0, n, i, h => by
    have e : ∀ k, crossroadslaw17_Small.l0 (k + 1) n i t l a b c = (if (t.length : Int) ≤ 60 then (if n ≤ 2000 then (some (decide ((l.length : Int) ≤ 60))) else (some false)) else (some false)) := fun k => by
      rw [crossroadslaw17_Small.l0, if_neg (by omega)]
    by_cases h1 : (t.length : Int) ≤ 60
    · by_cases h2 : n ≤ 2000
      · exact ⟨_, Ev.step (fun k => by rw [e, if_pos h1, if_pos h2]) (Ev.now _)⟩
      · exact ⟨_, Ev.step (fun k => by rw [e, if_pos h1, if_neg h2]) (Ev.now _)⟩
    · exact ⟨_, Ev.step (fun k => by rw [e, if_neg h1]) (Ev.now _)⟩
  | d + 1, n, i, h => by
    obtain ⟨r, hr⟩ := small_l0 t l a b c hz d (wrap64 (n + ((rd_T38 t i).f0.size : Int))) (i + 1) (by omega)
    refine ⟨r, Ev.step (fun k => ?_) hr⟩
    rw [crossroadslaw17_Small.l0, if_pos (by omega), if_pos (by omega), w64 (x := (i : Int) + 1) (by omega)]
    rfl
theorem small_ev (t : List S38) (l : List Int) (a b c : Int) (hz : t.length ≤ 4398046511104) : ∃ r, Ev (fun k => crossroadslaw17_Small.f k t l a b c) r := small_l0 t l a b c hz t.length 0 0 (by omega)
/-- The product of the texts. -/
def prod : List Int → Int
  | [] => 1
  | c :: r => textsC c * prod r
theorem prod_pos : ∀ L, 1 ≤ prod L
  | [] => by decide
  | c :: r => by
    have h := prod_pos r
    have h2 := textsC_pos c
    have := Int.mul_le_mul h2.1 h (by omega) (by omega)
    rw [prod]; omega
theorem prod_append : ∀ A B, prod (A ++ B) = prod A * prod B
  | [], B => by rw [List.nil_append, prod, Int.one_mul]
  | c :: A, B => by rw [List.cons_append, prod, prod, prod_append A B, Int.mul_assoc]
theorem cnt_min : ∀ (C : List Int) (n : Int), 1 ≤ n → n ≤ 1099511627776 → cntC n C = if n * prod C < 1099511627776 then n * prod C else 1099511627776
  | [], n, h0, h1 => by
    rw [cntC, prod, Int.mul_one]
    split <;> omega
  | c :: r, n, h0, h1 => by
    have hp := textsC_pos c
    have hr := prod_pos r
    rw [cntC, prod]
    by_cases hgt : n > 1099511627776 / textsC c
    · have h2 : 1099511627776 < n * textsC c := Int.lt_mul_of_ediv_lt (show 0 < textsC c by omega) hgt
      have h3 := Int.mul_le_mul_of_nonneg_left hr (show 0 ≤ n * textsC c by omega)
      rw [if_pos hgt, ← Int.mul_assoc, if_neg (by omega)]
    · rw [if_neg hgt]
      have hle : n * textsC c ≤ 1099511627776 := by
        have h1 : n ≤ 1099511627776 / textsC c := by omega
        have h2 := Int.mul_le_mul_of_nonneg_right h1 (show 0 ≤ textsC c by omega)
        have h3 := Int.ediv_mul_le (1099511627776 : Int) (show textsC c ≠ 0 by omega)
        omega
      have h4 : 1 ≤ n * textsC c := by
        have := Int.mul_le_mul h0 hp.1 (by omega) (by omega)
        omega
      rw [cnt_min r _ h4 hle, Int.mul_assoc]
/-- One entry's cap changed: one factor changed. -/
theorem fcaps_set : ∀ (t : List S38) (k : Nat) (h : k < t.length), (t[k]).f1 = false → ∃ R, 1 ≤ R ∧ prod (fcaps t) = textsC (t[k]).f2 * R ∧ ∀ z : S38, z.f1 = false → prod (fcaps (t.set k z)) = textsC z.f2 * R
  | x :: r, 0, h, hd => by
    refine ⟨prod (fcaps r), prod_pos _, ?_, fun z hz => ?_⟩
    · rw [fcaps, if_neg (by simp at hd; rw [hd]; decide), prod]; rfl
    · rw [List.set_cons_zero, fcaps, if_neg (by rw [hz]; decide), prod]
  | x :: r, k + 1, h, hd => by
    obtain ⟨R, hR, h1, h2⟩ := fcaps_set r k (by simpa using h) (by simpa using hd)
    by_cases hx : x.f1 = true
    · refine ⟨R, hR, ?_, fun z hz => ?_⟩
      · rw [fcaps, if_pos hx]; simpa using h1
      · rw [List.set_cons_succ, fcaps, if_pos hx]; exact h2 z hz
    · have hp := textsC_pos x.f2
      refine ⟨textsC x.f2 * R, by have := Int.mul_le_mul hp.1 hR (by omega) (by omega); omega, ?_, fun z hz => ?_⟩
      · rw [fcaps, if_neg hx, prod, h1, List.getElem_cons_succ, Int.mul_left_comm]
      · rw [List.set_cons_succ, fcaps, if_neg hx, prod, h2 z hz, Int.mul_left_comm]
end Go.Proofs.Ytmlnoapfhimgoaa.Pure
