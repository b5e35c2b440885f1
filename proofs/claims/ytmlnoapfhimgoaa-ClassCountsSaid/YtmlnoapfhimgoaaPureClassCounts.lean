/- ClassCounts, the plain part: both give the same input, and it is of the class. -/
import Derived.Test.YtmlnoapfhimgoaaHasL
import Derived.Test.YtmlnoapfhimgoaaCntL
import Derived.Test.YtmlnoapfhimgoaaAwake
import Derived.Test.YtmlnoapfhimgoaaPx7
namespace Go.Proofs.Ytmlnoapfhimgoaa.Pure
set_option linter.unusedVariables false
set_option linter.unusedSimpArgs false
open Go.RowKit Go.Proofs.Ytmlnoapfhimgoaa.G Go.Proofs.Ytmlnoapfhimgoaa.Tree Go.Proofs.Ytmlnoapfhimgoaa.Cls Go.Proofs.Ytmlnoapfhimgoaa.P Go.Proofs.YtmlnoapfhimgoaaW.PrintWords Go.Proofs.YtmlnoapfhimgoaaW.PrintLast Go.Proofs.YtmlnoapfhimgoaaW.PrintMore
theorem textC_le {m c : Int} (hc : 0 ≤ c ∧ c ≤ 3) (hm : m < textsC c) : ((textC m).length : Int) ≤ c := by
  have h3 : c = 0 ∨ c = 1 ∨ c = 2 ∨ c = 3 := by omega
  have e0 : textsC 0 = 1 := rfl
  have e1 : textsC 1 = 257 := rfl
  have e2 : textsC 2 = 65793 := rfl
  unfold textC
  rcases h3 with rfl | rfl | rfl | rfl
  · rw [e0] at hm
    rw [if_pos hm]; decide
  · rw [e1] at hm
    by_cases h : m < 1
    · rw [if_pos h]; decide
    · rw [if_neg h, if_pos hm]; show ((1 : Nat) : Int) ≤ 1; decide
  · rw [e2] at hm
    by_cases h : m < 1
    · rw [if_pos h]; decide
    · by_cases h2 : m < 257
      · rw [if_neg h, if_pos h2]; show ((1 : Nat) : Int) ≤ 2; decide
      · rw [if_neg h, if_neg h2, if_pos hm]; show ((2 : Nat) : Int) ≤ 2; decide
  · by_cases h : m < 1
    · rw [if_pos h]; decide
    · by_cases h2 : m < 257
      · rw [if_neg h, if_pos h2]; show ((1 : Nat) : Int) ≤ 3; decide
      · by_cases h4 : m < 65793
        · rw [if_neg h, if_neg h2, if_pos h4]; show ((2 : Nat) : Int) ≤ 3; decide
        · rw [if_neg h, if_neg h2, if_neg h4]; show ((3 : Nat) : Int) ≤ 3; decide
theorem setL_le (C : List Int) (hC : ∀ x ∈ C, 0 ≤ x ∧ x ≤ 3) : ∀ (i : Nat) (L : List (List Int)) (n : Int), i ≤ C.length → L.length = C.length → (∀ j, i ≤ j → j < C.length → ((L.getD j []).length : Int) ≤ C.getD j 0) → ∀ j, j < C.length → (((setL C i L n).getD j []).length : Int) ≤ C.getD j 0
  | 0, L, n, hi, hl, h => fun j hj => h j (Nat.zero_le _) hj
  | i + 1, L, n, hi, hl, h => by
    rw [setL]
    refine setL_le C hC i _ _ (by omega) (by rw [List.length_set]; exact hl) (fun j h1 h2 => ?_)
    by_cases hj : j = i
    · subst hj
      rw [List.getD_eq_getElem?_getD, List.getElem?_set_self (by omega), Option.getD_some]
      have hr : rd C (j : Int) = C.getD j 0 := rfl
      have hm : C.getD j 0 ∈ C := by rw [List.getD_eq_getElem?_getD, List.getElem?_eq_getElem h2]; exact List.getElem_mem _
      rw [hr]
      exact textC_le (hC _ hm) (Int.emod_lt_of_pos _ (by have := textsC_pos (C.getD j 0); omega))
    · rw [List.getD_eq_getElem?_getD, List.getElem?_set_ne (by omega), ← List.getD_eq_getElem?_getD]
      exact h j (by omega) h2
theorem allLe_of : ∀ (X : List (List Int)) (C : List Int), (∀ j, j < X.length → j < C.length → ((X.getD j []).length : Int) ≤ C.getD j 0) → allLe X C = true
  | [], C, _ => by cases C <;> rfl
  | x :: X, [], _ => rfl
  | x :: X, c :: C, h => by
    rw [allLe, allLe_of X C (fun j h1 h2 => by
      have := h (j + 1) (by simp; omega) (by simp; omega)
      simpa using this), Bool.and_true]
    have := h 0 (by simp) (by simp)
    exact decide_eq_true (by simpa using this)
theorem nthRow_le (C : List Int) (hC : ∀ x ∈ C, 0 ≤ x ∧ x ≤ 3) (n : Int) : allLe (nthRow C n) C = true := by
  refine allLe_of _ _ (fun j _ h2 => ?_)
  unfold nthRow
  exact setL_le C hC C.length _ n (Nat.le_refl _) (by simp) (fun j h1 h2 => by omega) j h2
def ckT : Bool := (List.range 7).all fun a => (List.range (a + 1)).all fun b => (List.range (waysC a b).toNat).all fun x => decide (cntT (failsC (x : Int) a b) ≤ (b : Int))
theorem ckT_ok : ckT = true := by kernel_rfl
theorem fails_few {x a b : Int} (ha : 0 ≤ a ∧ a ≤ 6) (hb : 0 ≤ b ∧ b ≤ a) (hx : 0 ≤ x ∧ x < waysC a b) : cntT (failsC x a b) ≤ b := by
  have h := List.all_eq_true.1 (List.all_eq_true.1 ckT_ok a.toNat (List.mem_range.2 (by omega))) b.toNat (List.mem_range.2 (by omega))
  rw [show ((a.toNat : Nat) : Int) = a by omega, show ((b.toNat : Nat) : Int) = b by omega] at h
  have h2 := List.all_eq_true.1 h x.toNat (List.mem_range.2 (by omega))
  rw [show ((x.toNat : Nat) : Int) = x by omega] at h2
  exact of_decide_eq_true h2
theorem nth_has {t : List S38} {l : List Int} {a b c n : Int} (h : noneB t l a b c n = false) : hasC t l a b c ((nthRow (capsC t l) (n / waysC a b)).take (filesL t).length) ((nthRow (capsC t l) (n / waysC a b)).drop (filesL t).length) (failsC (n % waysC a b) a b) = true := by
  unfold noneB at h
  simp only [Bool.or_eq_false_iff, decide_eq_false_iff_not] at h
  have hm : mayC t l a b c = true := by
    cases hm : mayC t l a b c
    · exfalso
      have h2 := h.2.1
      unfold countC at h2
      rw [hm, if_neg (by decide)] at h2
      omega
    · rfl
  obtain ⟨h1, h2, h3, h4, h5, h6, h7, _⟩ := may_bounds hm
  have hw := ways_is (b := b) h4 (by omega)
  have hw1 := hw.2.2.2 h5.1
  have hx : 0 ≤ n % waysC a b ∧ n % waysC a b < waysC a b := ⟨Int.emod_nonneg _ (by omega), Int.emod_lt_of_pos _ (by omega)⟩
  have hfl := ((rows_is h4 h5).2.2 _ hx).2
  have hct := fails_few h4 h5 hx
  have hcl := @caps_len t l
  have hnl := nthRow_len (capsC t l) (n / waysC a b)
  have hle := nthRow_le (capsC t l) h7 (n / waysC a b)
  obtain ⟨X, hX⟩ : ∃ X, nthRow (capsC t l) (n / waysC a b) = X := ⟨_, rfl⟩
  rw [hX] at hnl hle ⊢
  have hft : (X.take (filesL t).length).length = (filesL t).length := by rw [List.length_take]; omega
  have hal := allLe_append (X.take (filesL t).length) (fcaps t) (X.drop (filesL t).length) l (by rw [hft, fcaps_len t 0]; rfl)
  rw [List.take_append_drop] at hal
  have hle : allLe X (fcaps t ++ l) = true := hle
  rw [hle] at hal
  unfold hasC
  rw [hm, ← hal, decide_eq_true hft, decide_eq_true (show (X.drop (filesL t).length).length = l.length by rw [List.length_drop]; omega), decide_eq_true hfl, decide_eq_true hct]
  rfl
theorem sameT_l0 (X : List (List Int)) (hX : X.length ≤ 1000000) : ∀ (d : Nat) (i : Nat), i + d = X.length → Ev (fun k => crossroadsref17_sameTexts.l0 k X X (i : Int)) true
  | 0, i, h => Ev.step (f := fun _ => some true) (fun k => by rw [crossroadsref17_sameTexts.l0, if_neg (by omega)]) (Ev.now _)
  | d + 1, i, h => by
    have ih := sameT_l0 X hX d (i + 1) (by omega)
    refine Ev.step (fun k => ?_) ih
    rw [crossroadsref17_sameTexts.l0, if_pos (by omega), if_pos (by omega), if_pos (by omega), if_pos rfl, w64 (x := (i : Int) + 1) (by omega)]
    rfl
theorem sameF_l0 (X : List Bool) (hX : X.length ≤ 1000000) : ∀ (d : Nat) (i : Nat), i + d = X.length → Ev (fun k => crossroadsref17_sameFails.l0 k X X (i : Int)) true
  | 0, i, h => Ev.step (f := fun _ => some true) (fun k => by rw [crossroadsref17_sameFails.l0, if_neg (by omega)]) (Ev.now _)
  | d + 1, i, h => by
    have ih := sameF_l0 X hX d (i + 1) (by omega)
    refine Ev.step (fun k => ?_) ih
    rw [crossroadsref17_sameFails.l0, if_pos (by omega), if_pos (by omega), if_pos (by omega), if_neg (by simp), w64 (x := (i : Int) + 1) (by omega)]
    rfl
theorem same_ev (F A : List (List Int)) (fs : List Bool) (h1 : F.length ≤ 1000000) (h2 : A.length ≤ 1000000) (h3 : fs.length ≤ 1000000) : Ev (fun k => crossroadsref17_Same.f k F A fs F A fs) true := by
  unfold crossroadsref17_Same.f
  refine Ev.bind (a := true) ?_ (Ev.congr (fun k => if_pos rfl) (Ev.bind (a := true) ?_ (Ev.congr (fun k => if_pos rfl) (Ev.bind (a := true) ?_ (Ev.now _)))))
  · exact Ev.congr (fun k => by unfold crossroadsref17_sameTexts.f; exact if_pos rfl) (sameT_l0 F h1 F.length 0 (by omega))
  · exact Ev.congr (fun k => by unfold crossroadsref17_sameTexts.f; exact if_pos rfl) (sameT_l0 A h2 A.length 0 (by omega))
  · exact Ev.congr (fun k => by unfold crossroadsref17_sameFails.f; exact if_pos rfl) (sameF_l0 fs h3 fs.length 0 (by omega))
theorem cfiles_l0 (t : List S38) (l : List Int) (a b c : Int) (F A : List (List Int)) (fs : List Bool) (ok : Bool) (hz : t.length ≤ 4398046511104) (hh : ok = true → Ev (fun k => class_Has.f k t l a b c F A fs) true) : ∀ (d : List S38) (i j : Nat), i ≤ t.length → j ≤ i → t.drop i = d → (filesL t).drop j = filesFrom d i → j ≤ (filesL t).length → Ev (fun k => crossroadslaw17_ClassCounts.l0 k ok (j : Int) (filesL t) (i : Int) t l a b c F A fs) true
  | [], i, j, hi, hj, h, hf, hjl => by
    have h1 := len_of_drop hi h
    rw [filesFrom] at hf
    have h2 := len_of_drop hjl hf
    simp only [List.length_nil] at h1 h2
    cases ok
    · refine Ev.step (f := fun _ => some true) (fun k => ?_) (Ev.now _)
      rw [crossroadslaw17_ClassCounts.l0, if_neg (by omega), if_pos (by omega), if_neg (by decide)]
    · refine Ev.step (f := fun k => (class_Has.f k t l a b c F A fs).bind fun t304 => (some t304)) (fun k => ?_) (Ev.bind (hh rfl) (Ev.now _))
      rw [crossroadslaw17_ClassCounts.l0, if_neg (by omega), if_pos (by omega), if_pos rfl]
  | x :: d, i, j, hi, hj, h, hf, hjl => by
    obtain ⟨hlt, hx, hd⟩ := at_drop (z := z38) h
    have hx : rd_T38 t (i : Int) = x := hx
    have hw : wrap64 ((i : Int) + 1) = ((i + 1 : Nat) : Int) := by unfold wrap64; omega
    rw [filesFrom] at hf
    by_cases hD : x.f1 = true
    · rw [if_pos hD] at hf
      have ih := cfiles_l0 t l a b c F A fs ok hz hh d (i + 1) j (by omega) (by omega) hd hf hjl
      refine Ev.step (fun k => ?_) ih
      rw [crossroadslaw17_ClassCounts.l0, if_pos (by omega), if_pos (by omega), hx, if_pos hD, hw]
    · rw [if_neg hD] at hf
      obtain ⟨hlt2, hy, hyd⟩ := at_drop (z := 0) hf
      have hy : rd (filesL t) (j : Int) = i := hy
      have ih := cfiles_l0 t l a b c F A fs ok hz hh d (i + 1) (j + 1) (by omega) (by omega) hd hyd (by omega)
      refine Ev.step (fun k => ?_) ih
      rw [crossroadslaw17_ClassCounts.l0, if_pos (by omega), if_pos (by omega), hx, if_neg hD, if_neg (by omega), if_pos (by omega), if_pos (by omega), hy, if_pos rfl, hw, w64 (x := (j : Int) + 1) (by omega)]
      rfl
theorem jc_false (ok : Bool) (t : List S38) (l : List Int) (a b c : Int) (F A : List (List Int)) (fs : List Bool) (hz : t.length ≤ 4398046511104) (hh : ok = true → Ev (fun k => class_Has.f k t l a b c F A fs) true) : Ev (fun k => crossroadslaw17_ClassCounts.j0 k ok false t l a b c F A fs) true := by
  refine Ev.step (f := fun k => (class_Files.f k t l a b c).bind fun t301 => (crossroadslaw17_ClassCounts.l0 k ok 0 t301 0 t l a b c F A fs)) (fun k => by rw [crossroadslaw17_ClassCounts.j0, if_neg (by decide)]) ?_
  exact Ev.bind (pfiles_is t l a b c hz) (cfiles_l0 t l a b c F A fs ok hz hh t 0 0 (by omega) (by omega) rfl rfl (by omega))
/-- Counts, numbers and what is of the class agree. -/
theorem ClassCounts : crossroadslaw17_ClassCounts.Pure := by
  intro t l a b c n ht hl ha hb hc hn
  have hz : sizesB t = true := by
    unfold sizesB
    rw [List.all_eq_true]
    exact fun x hx => decide_eq_true (ht.2.2 x hx).1
  have ht1 : t.length ≤ 4398046511104 := by omega
  have hll : l.length ≤ 17592186043904 := by omega
  obtain ⟨s, hs⟩ := small_ev t l a b c ht1
  refine Ev.rounds (r := true) ?_
  unfold crossroadslaw17_ClassCounts.f
  refine Ev.bind awake_ev ?_
  refine Ev.congr (fun k => if_pos rfl) ?_
  refine Ev.bind hs ?_
  cases s
  · exact Ev.congr (fun k => if_neg (by decide)) (Ev.now _)
  · refine Ev.congr (fun k => if_pos rfl) ?_
    have e1 : class_Nth.f t l a b c n = some (nthC t l a b c n) := if_pos hz
    have e2 : crossroadsref17_Nth.f t l a b c n = some (nthC t l a b c n) := if_pos ⟨hz, hll⟩
    rw [e1, e2, mayf hz, rmayf hz hll]
    simp only [Option.bind_some]
    refine Ev.congr (fun k => if_neg (by simp)) ?_
    refine Ev.bind (count_is t l a b c hz) (Ev.bind (rcount_is t l a b c hz hll) ?_)
    refine Ev.congr (fun k => (if_pos rfl).trans (if_neg (by simp))) ?_
    cases hnb : noneB t l a b c n
    · have hh := nth_has hnb
      have hm : mayC t l a b c = true := by
        unfold hasC at hh
        simp only [Bool.and_eq_true] at hh
        exact hh.1
      obtain ⟨h1, h2, h3, h4, h5, h6, h7, _⟩ := may_bounds hm
      have hw := ways_is (b := b) h4 (by omega)
      have hw1 := hw.2.2.2 h5.1
      have hx : 0 ≤ n % waysC a b ∧ n % waysC a b < waysC a b := ⟨Int.emod_nonneg _ (by omega), Int.emod_lt_of_pos _ (by omega)⟩
      have hfl := ((rows_is h4 h5).2.2 _ hx).2
      have hcl := @caps_len t l
      have hnl := nthRow_len (capsC t l) (n / waysC a b)
      have he : nthC t l a b c n = ((nthRow (capsC t l) (n / waysC a b)).take (filesL t).length, (nthRow (capsC t l) (n / waysC a b)).drop (filesL t).length, failsC (n % waysC a b) a b, true) := by
        unfold nthC
        rw [hnb, if_neg (by decide)]
      rw [he]
      refine Ev.bind (same_ev _ _ _ ?_ ?_ ?_) ?_
      · rw [List.length_take]; omega
      · rw [List.length_drop]; omega
      · show (failsC (n % waysC a b) a b).length ≤ 1000000
        omega
      · refine jc_false _ _ _ _ _ _ _ _ _ ht1 (fun _ => ?_)
        have := has_ev t l a b c ((nthRow (capsC t l) (n / waysC a b)).take (filesL t).length) ((nthRow (capsC t l) (n / waysC a b)).drop (filesL t).length) (failsC (n % waysC a b) a b) hz ht1 (by omega)
        rw [hh] at this
        exact this
    · have he : nthC t l a b c n = ([], [], [], false) := by
        unfold nthC
        rw [hnb, if_pos rfl]
      rw [he]
      refine Ev.bind (same_ev [] [] [] (by decide) (by decide) (by decide)) ?_
      exact jc_false _ _ _ _ _ _ _ _ _ ht1 (fun h => by cases h)
end Go.Proofs.Ytmlnoapfhimgoaa.Pure
