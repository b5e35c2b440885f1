/- What Nth gives is of the class. Plain. -/
import Derived.Test.YtmlnoapfhimgoaaHasL
import Derived.Test.YtmlnoapfhimgoaaGNth
namespace Go.Proofs.Ytmlnoapfhimgoaa.Pure
set_option linter.unusedVariables false
set_option linter.unusedSimpArgs false
open Go.RowKit Go.Proofs.Ytmlnoapfhimgoaa.G Go.Proofs.Ytmlnoapfhimgoaa.Tree Go.Proofs.Ytmlnoapfhimgoaa.Cls Go.Proofs.Ytmlnoapfhimgoaa.P Go.Proofs.YtmlnoapfhimgoaaW.PrintWords Go.Proofs.YtmlnoapfhimgoaaW.PrintLast Go.Proofs.YtmlnoapfhimgoaaW.PrintMore
theorem textC_le {m c : Int} (hc : 0 ≤ c ∧ c ≤ 3) (hm : m < textsC c) : ((textC m).length : Int) ≤ c := by
  have h3 : c = 0 ∨ c = 1 ∨ c = 2 ∨ c = 3 := by omega
  have e0 : textsC 0 = 1 := rfl
  have e1 : textsC 1 = 257 := rfl
  have e2 : textsC 2 = 65793 := rfl
  unfold textC
  rcases h3 with rfl | rfl | rfl | rfl
  · rw [e0] at hm
    rw [if_pos hm]; decide
  · rw [e1] at hm
    by_cases h : m < 1
    · rw [if_pos h]; decide
    · rw [if_neg h, if_pos hm]; show ((1 : Nat) : Int) ≤ 1; decide
  · rw [e2] at hm
    by_cases h : m < 1
    · rw [if_pos h]; decide
    · by_cases h2 : m < 257
      · rw [if_neg h, if_pos h2]; show ((1 : Nat) : Int) ≤ 2; decide
      · rw [if_neg h, if_neg h2, if_pos hm]; show ((2 : Nat) : Int) ≤ 2; decide
  · by_cases h : m < 1
    · rw [if_pos h]; decide
    · by_cases h2 : m < 257
      · rw [if_neg h, if_pos h2]; show ((1 : Nat) : Int) ≤ 3; decide
      · by_cases h4 : m < 65793
        · rw [if_neg h, if_neg h2, if_pos h4]; show ((2 : Nat) : Int) ≤ 3; decide
        · rw [if_neg h, if_neg h2, if_neg h4]; show ((3 : Nat) : Int) ≤ 3; decide
theorem setL_le (C : List Int) (hC : ∀ x ∈ C, 0 ≤ x ∧ x ≤ 3) : ∀ (i : Nat) (L : List (List Int)) (n : Int), i ≤ C.length → L.length = C.length → (∀ j, i ≤ j → j < C.length → ((L.getD j []).length : Int) ≤ C.getD j 0) → ∀ j, j < C.length → (((setL C i L n).getD j []).length : Int) ≤ C.getD j 0
  | 0, L, n, hi, hl, h => fun j hj => h j (Nat.zero_le _) hj
  | i + 1, L, n, hi, hl, h => by
    rw [setL]
    refine setL_le C hC i _ _ (by omega) (by rw [List.length_set]; exact hl) (fun j h1 h2 => ?_)
    by_cases hj : j = i
    · subst hj
      rw [List.getD_eq_getElem?_getD, List.getElem?_set_self (by omega), Option.getD_some]
      have hr : rd C (j : Int) = C.getD j 0 := rfl
      have hm : C.getD j 0 ∈ C := by rw [List.getD_eq_getElem?_getD, List.getElem?_eq_getElem h2]; exact List.getElem_mem _
      rw [hr]
      exact textC_le (hC _ hm) (Int.emod_lt_of_pos _ (by have := textsC_pos (C.getD j 0); omega))
    · rw [List.getD_eq_getElem?_getD, List.getElem?_set_ne (by omega), ← List.getD_eq_getElem?_getD]
      exact h j (by omega) h2
theorem allLe_of : ∀ (X : List (List Int)) (C : List Int), (∀ j, j < X.length → j < C.length → ((X.getD j []).length : Int) ≤ C.getD j 0) → allLe X C = true
  | [], C, _ => by cases C <;> rfl
  | x :: X, [], _ => rfl
  | x :: X, c :: C, h => by
    rw [allLe, allLe_of X C (fun j h1 h2 => by
      have := h (j + 1) (by simp; omega) (by simp; omega)
      simpa using this), Bool.and_true]
    have := h 0 (by simp) (by simp)
    exact decide_eq_true (by simpa using this)
theorem nthRow_le (C : List Int) (hC : ∀ x ∈ C, 0 ≤ x ∧ x ≤ 3) (n : Int) : allLe (nthRow C n) C = true := by
  refine allLe_of _ _ (fun j _ h2 => ?_)
  unfold nthRow
  exact setL_le C hC C.length _ n (Nat.le_refl _) (by simp) (fun j h1 h2 => by omega) j h2
def ckT : Bool := (List.range 7).all fun a => (List.range (a + 1)).all fun b => (List.range (waysC a b).toNat).all fun x => decide (cntT (failsC (x : Int) a b) ≤ (b : Int))
theorem ckT_ok : ckT = true := by kernel_rfl
theorem fails_few {x a b : Int} (ha : 0 ≤ a ∧ a ≤ 6) (hb : 0 ≤ b ∧ b ≤ a) (hx : 0 ≤ x ∧ x < waysC a b) : cntT (failsC x a b) ≤ b := by
  have h := List.all_eq_true.1 (List.all_eq_true.1 ckT_ok a.toNat (List.mem_range.2 (by omega))) b.toNat (List.mem_range.2 (by omega))
  rw [show ((a.toNat : Nat) : Int) = a by omega, show ((b.toNat : Nat) : Int) = b by omega] at h
  have h2 := List.all_eq_true.1 h x.toNat (List.mem_range.2 (by omega))
  rw [show ((x.toNat : Nat) : Int) = x by omega] at h2
  exact of_decide_eq_true h2
theorem nth_has {t : List S38} {l : List Int} {a b c n : Int} (h : noneB t l a b c n = false) : hasC t l a b c ((nthRow (capsC t l) (n / waysC a b)).take (filesL t).length) ((nthRow (capsC t l) (n / waysC a b)).drop (filesL t).length) (failsC (n % waysC a b) a b) = true := by
  unfold noneB at h
  simp only [Bool.or_eq_false_iff, decide_eq_false_iff_not] at h
  have hm : mayC t l a b c = true := by
    cases hm : mayC t l a b c
    · exfalso
      have h2 := h.2.1
      unfold countC at h2
      rw [hm, if_neg (by decide)] at h2
      omega
    · rfl
  obtain ⟨h1, h2, h3, h4, h5, h6, h7, _⟩ := may_bounds hm
  have hw := ways_is (b := b) h4 (by omega)
  have hw1 := hw.2.2.2 h5.1
  have hx : 0 ≤ n % waysC a b ∧ n % waysC a b < waysC a b := ⟨Int.emod_nonneg _ (by omega), Int.emod_lt_of_pos _ (by omega)⟩
  have hfl := ((rows_is h4 h5).2.2 _ hx).2
  have hct := fails_few h4 h5 hx
  have hcl := @caps_len t l
  have hnl := nthRow_len (capsC t l) (n / waysC a b)
  have hle := nthRow_le (capsC t l) h7 (n / waysC a b)
  obtain ⟨X, hX⟩ : ∃ X, nthRow (capsC t l) (n / waysC a b) = X := ⟨_, rfl⟩
  rw [hX] at hnl hle ⊢
  have hft : (X.take (filesL t).length).length = (filesL t).length := by rw [List.length_take]; omega
  have hal := allLe_append (X.take (filesL t).length) (fcaps t) (X.drop (filesL t).length) l (by rw [hft, fcaps_len t 0]; rfl)
  rw [List.take_append_drop] at hal
  have hle : allLe X (fcaps t ++ l) = true := hle
  rw [hle] at hal
  unfold hasC
  rw [hm, ← hal, decide_eq_true hft, decide_eq_true (show (X.drop (filesL t).length).length = l.length by rw [List.length_drop]; omega), decide_eq_true hfl, decide_eq_true hct]
  rfl
end Go.Proofs.Ytmlnoapfhimgoaa.Pure
