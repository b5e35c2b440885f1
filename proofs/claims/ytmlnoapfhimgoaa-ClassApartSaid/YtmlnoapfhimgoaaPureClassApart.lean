/- ClassApart, the plain part: two numbers, two inputs, in order. -/
import Derived.Test.YtmlnoapfhimgoaaApartL
import Derived.Test.YtmlnoapfhimgoaaNthL
import Derived.Test.YtmlnoapfhimgoaaAwake
import Derived.Test.YtmlnoapfhimgoaaPx12
namespace Go.Proofs.Ytmlnoapfhimgoaa.Pure
set_option linter.unusedVariables false
set_option linter.unusedSimpArgs false
open Go.RowKit Go.Proofs.Ytmlnoapfhimgoaa.G Go.Proofs.Ytmlnoapfhimgoaa.Tree Go.Proofs.Ytmlnoapfhimgoaa.Cls Go.Proofs.Ytmlnoapfhimgoaa.P Go.Proofs.YtmlnoapfhimgoaaW.PrintWords Go.Proofs.YtmlnoapfhimgoaaW.PrintLast Go.Proofs.YtmlnoapfhimgoaaW.PrintMore
theorem st_l0 (X Y : List (List Int)) (hX : X.length ≤ 1000000) (hl : X.length = Y.length) : ∀ (g h : List (List Int)) (i : Nat), i ≤ X.length → X.drop i = g → Y.drop i = h → Ev (fun k => crossroadsref17_sameTexts.l0 k X Y (i : Int)) (cmpT g h).isNone
  | [], h, i, hi, hg, hh => by
    have h1 := len_of_drop hi hg
    simp only [List.length_nil] at h1
    have e : (cmpT [] h).isNone = true := by cases h <;> rfl
    rw [e]
    exact Ev.step (f := fun _ => some true) (fun k => by rw [crossroadsref17_sameTexts.l0, if_neg (by omega)]) (Ev.now _)
  | x :: g, [], i, hi, hg, hh => by
    have h1 := len_of_drop hi hg
    have h2 := len_of_drop (by omega) hh
    simp at h1 h2
    omega
  | x :: g, y :: h, i, hi, hg, hh => by
    obtain ⟨hlt, hx, hgd⟩ := at_drop (z := []) hg
    have hx : rd_L7 X (i : Int) = x := hx
    obtain ⟨hlt2, hy, hhd⟩ := at_drop (z := []) hh
    have hy : rd_L7 Y (i : Int) = y := hy
    have ih := st_l0 X Y hX hl g h (i + 1) (by omega) hgd hhd
    have hw : wrap64 ((i : Int) + 1) = ((i + 1 : Nat) : Int) := by unfold wrap64; omega
    rw [cmpT]
    by_cases he : (strOfNums x).toList = (strOfNums y).toList
    · rw [if_pos he]
      refine Ev.step (fun k => ?_) ih
      rw [crossroadsref17_sameTexts.l0, if_pos (by omega), if_pos (by omega), if_pos (by omega), hx, hy, if_pos he, hw]
    · rw [if_neg he]
      refine Ev.step (f := fun _ => some false) (fun k => ?_) (Ev.now _)
      rw [crossroadsref17_sameTexts.l0, if_pos (by omega), if_pos (by omega), if_pos (by omega), hx, hy, if_neg he]
theorem sf_l0 (X Y : List Bool) (hX : X.length ≤ 1000000) (hl : X.length = Y.length) : ∀ (g h : List Bool) (i : Nat), i ≤ X.length → X.drop i = g → Y.drop i = h → Ev (fun k => crossroadsref17_sameFails.l0 k X Y (i : Int)) (cmpF g h).isNone
  | [], h, i, hi, hg, hh => by
    have h1 := len_of_drop hi hg
    simp only [List.length_nil] at h1
    have e : (cmpF [] h).isNone = true := by cases h <;> rfl
    rw [e]
    exact Ev.step (f := fun _ => some true) (fun k => by rw [crossroadsref17_sameFails.l0, if_neg (by omega)]) (Ev.now _)
  | x :: g, [], i, hi, hg, hh => by
    have h1 := len_of_drop hi hg
    have h2 := len_of_drop (by omega) hh
    simp at h1 h2
    omega
  | x :: g, y :: h, i, hi, hg, hh => by
    obtain ⟨hlt, hx, hgd⟩ := at_drop (z := false) hg
    have hx : rdOf false X (i : Int) = x := hx
    obtain ⟨hlt2, hy, hhd⟩ := at_drop (z := false) hh
    have hy : rdOf false Y (i : Int) = y := hy
    have ih := sf_l0 X Y hX hl g h (i + 1) (by omega) hgd hhd
    have hw : wrap64 ((i : Int) + 1) = ((i + 1 : Nat) : Int) := by unfold wrap64; omega
    rw [cmpF]
    by_cases he : (x != y) = true
    · rw [if_pos he]
      refine Ev.step (f := fun _ => some false) (fun k => ?_) (Ev.now _)
      rw [crossroadsref17_sameFails.l0, if_pos (by omega), if_pos (by omega), if_pos (by omega), hx, hy, if_pos he]
    · rw [if_neg he]
      refine Ev.step (fun k => ?_) ih
      rw [crossroadsref17_sameFails.l0, if_pos (by omega), if_pos (by omega), if_pos (by omega), hx, hy, if_neg he, hw]
theorem same_is (F A F' A' : List (List Int)) (f f' : List Bool) (h1 : F.length ≤ 1000) (h2 : A.length ≤ 1000) (h3 : f.length ≤ 1000) (e1 : F.length = F'.length) (e2 : A.length = A'.length) (e3 : f.length = f'.length) : Ev (fun k => crossroadsref17_Same.f k F A f F' A' f') ((cmpT (F ++ A) (F' ++ A')).isNone && (cmpF f f').isNone) := by
  unfold crossroadsref17_Same.f
  have s1 : Ev (fun k => crossroadsref17_sameTexts.f k F F') (cmpT F F').isNone := Ev.congr (fun k => by unfold crossroadsref17_sameTexts.f; exact if_pos (by rw [e1])) (st_l0 F F' (by omega) e1 F F' 0 (by omega) rfl rfl)
  have s2 : Ev (fun k => crossroadsref17_sameTexts.f k A A') (cmpT A A').isNone := Ev.congr (fun k => by unfold crossroadsref17_sameTexts.f; exact if_pos (by rw [e2])) (st_l0 A A' (by omega) e2 A A' 0 (by omega) rfl rfl)
  have s3 : Ev (fun k => crossroadsref17_sameFails.f k f f') (cmpF f f').isNone := Ev.congr (fun k => by unfold crossroadsref17_sameFails.f; exact if_pos (by rw [e3])) (sf_l0 f f' (by omega) e3 f f' 0 (by omega) rfl rfl)
  rw [cmpT_append F F' A A' e1]
  refine Ev.bind s1 ?_
  cases hc : cmpT F F' with
  | some v => exact Ev.congr (fun k => if_neg (by simp)) (Ev.now false)
  | none =>
    refine Ev.congr (fun k => if_pos rfl) ?_
    refine Ev.bind s2 ?_
    cases hc2 : cmpT A A' with
    | some v => exact Ev.congr (fun k => if_neg (by simp)) (Ev.now false)
    | none =>
      refine Ev.congr (fun k => if_pos rfl) ?_
      exact Ev.bind s3 (Ev.now _)
theorem ap_l1 (p q : Int) (F A F' A' : List (List Int)) (f f' : List Bool) (hf : f.length ≤ 1000) (hl : f.length = f'.length) : ∀ (g h : List Bool) (i : Nat), i ≤ f.length → f.drop i = g → f'.drop i = h → (match cmpF g h with | some v => v = decide (p < q) | none => p = q) → Ev (fun k => crossroadslaw17_ClassApart.l1 k p q (i : Int) F A f F' A' f') true
  | [], h, i, hi, hg, hh, hc => by
    have h1 := len_of_drop hi hg
    simp only [List.length_nil] at h1
    have e : cmpF [] h = none := by cases h <;> rfl
    rw [e] at hc
    have hc : p = q := hc
    refine Ev.step (f := fun _ => some true) (fun k => ?_) (Ev.now _)
    rw [crossroadslaw17_ClassApart.l1, if_neg (by omega), hc, beq_self_eq_true]
  | x :: g, [], i, hi, hg, hh, hc => by
    have h1 := len_of_drop hi hg
    have h2 := len_of_drop (by omega) hh
    simp at h1 h2
    omega
  | x :: g, y :: h, i, hi, hg, hh, hc => by
    obtain ⟨hlt, hx, hgd⟩ := at_drop (z := false) hg
    have hx : rdOf false f (i : Int) = x := hx
    obtain ⟨hlt2, hy, hhd⟩ := at_drop (z := false) hh
    have hy : rdOf false f' (i : Int) = y := hy
    have hw : wrap64 ((i : Int) + 1) = ((i + 1 : Nat) : Int) := by unfold wrap64; omega
    rw [cmpF] at hc
    by_cases he : (x != y) = true
    · rw [if_pos he] at hc
      have hc : y = decide (p < q) := hc
      refine Ev.step (f := fun _ => some true) (fun k => ?_) (Ev.now _)
      rw [crossroadslaw17_ClassApart.l1, if_pos (by omega), if_pos (by omega), if_pos (by omega), hx, hy, if_pos he, hc, beq_self_eq_true]
    · rw [if_neg he] at hc
      refine Ev.step (fun k => ?_) (ap_l1 p q F A F' A' f f' hf hl g h (i + 1) (by omega) hgd hhd hc)
      rw [crossroadslaw17_ClassApart.l1, if_pos (by omega), if_pos (by omega), if_pos (by omega), hx, hy, if_neg he, hw]
theorem ap_l0 (p q : Int) (X Y F A F' A' : List (List Int)) (f f' : List Bool) (hX : X.length ≤ 1000) (hl : X.length = Y.length) (h1 : cmpT X Y = none → Ev (fun k => crossroadslaw17_ClassApart.l1 k p q 0 F A f F' A' f') true) : ∀ (g h : List (List Int)) (i : Nat), i ≤ X.length → X.drop i = g → Y.drop i = h → cmpT X Y = cmpT g h → (∀ v, cmpT g h = some v → v = decide (p < q)) → Ev (fun k => crossroadslaw17_ClassApart.l0 k p q X Y (i : Int) F A f F' A' f') true
  | [], h, i, hi, hg, hh, hs, hc => by
    have hn := len_of_drop hi hg
    simp only [List.length_nil] at hn
    have e : cmpT [] h = none := by cases h <;> rfl
    refine Ev.step (fun k => ?_) (h1 (hs.trans e))
    rw [crossroadslaw17_ClassApart.l0, if_neg (by omega)]
  | x :: g, [], i, hi, hg, hh, hs, hc => by
    have h1 := len_of_drop hi hg
    have h2 := len_of_drop (by omega) hh
    simp at h1 h2
    omega
  | x :: g, y :: h, i, hi, hg, hh, hs, hc => by
    obtain ⟨hlt, hx, hgd⟩ := at_drop (z := []) hg
    have hx : rd_L7 X (i : Int) = x := hx
    obtain ⟨hlt2, hy, hhd⟩ := at_drop (z := []) hh
    have hy : rd_L7 Y (i : Int) = y := hy
    have hw : wrap64 ((i : Int) + 1) = ((i + 1 : Nat) : Int) := by unfold wrap64; omega
    by_cases he : (strOfNums x).toList = (strOfNums y).toList
    · rw [cmpT, if_pos he] at hs hc
      refine Ev.step (fun k => ?_) (ap_l0 p q X Y F A F' A' f f' hX hl h1 g h (i + 1) (by omega) hgd hhd hs hc)
      rw [crossroadslaw17_ClassApart.l0, if_pos (by omega), if_pos (by omega), if_pos (by omega), hx, hy, if_pos he, hw]
    · rw [cmpT, if_neg he] at hc
      have hc := hc _ rfl
      refine Ev.step (f := fun _ => some true) (fun k => ?_) (Ev.now _)
      rw [crossroadslaw17_ClassApart.l0, if_pos (by omega), if_pos (by omega), if_pos (by omega), hx, hy, if_neg he]
      unfold less3 at hc
      by_cases l1 : (x.length : Int) < (y.length : Int)
      · rw [if_pos l1]
        rw [decide_eq_true l1, Bool.true_or] at hc
        rw [← hc]; rfl
      · rw [if_neg l1]
        rw [decide_eq_false l1, Bool.false_or] at hc
        by_cases l2 : (x.length : Int) = (y.length : Int)
        · rw [if_pos l2]
          rw [decide_eq_true l2, Bool.true_and] at hc
          rw [hc, beq_self_eq_true]
        · rw [if_neg l2]
          rw [decide_eq_false l2, Bool.false_and] at hc
          rw [← hc]; rfl
theorem ja_true (p q : Int) (t : List S38) (l : List Int) (a b c : Int) (F A F' A' : List (List Int)) (f f' : List Bool) : Ev (fun k => crossroadslaw17_ClassApart.j0 k p q true t l a b c F A f F' A' f') true :=
  Ev.step (f := fun _ => some true) (fun k => by rw [crossroadslaw17_ClassApart.j0, if_pos rfl]) (Ev.now _)
theorem ap_j1 (p q : Int) (F A F' A' : List (List Int)) (f f' : List Bool) (h1 : F.length ≤ 100) (h2 : A.length ≤ 100) (h3 : f.length ≤ 100) (e1 : F.length = F'.length) (e2 : A.length = A'.length) (e3 : f.length = f'.length) (hc : ∀ v, cmpT (F ++ A) (F' ++ A') = some v → v = decide (p < q)) (hn : cmpT (F ++ A) (F' ++ A') = none → (match cmpF f f' with | some v => v = decide (p < q) | none => p = q)) : Ev (fun k => crossroadslaw17_ClassApart.j1 k p q false F A f F' A' f') true := by
  have hl : (F ++ A).length = (F' ++ A').length := by rw [List.length_append, List.length_append]; omega
  have hl2 : (F ++ A).length = F.length + A.length := List.length_append
  have := ap_l0 p q (F ++ A) (F' ++ A') F A F' A' f f' (by omega) hl (fun h => ap_l1 p q F A F' A' f f' (by omega) e3 f f' 0 (by omega) rfl rfl (hn h)) (F ++ A) (F' ++ A') 0 (by omega) rfl rfl rfl hc
  refine Ev.step (fun k => ?_) this
  rw [crossroadslaw17_ClassApart.j1, if_neg (by decide)]
  simp only [Option.bind_some]
  rw [if_pos (by simp; omega)]
  simp only [List.nil_append]
  rw [if_pos (by omega), if_pos (by simp; omega), if_pos (by omega)]
  rfl
theorem ap_j0 (p q : Int) (t : List S38) (l : List Int) (a b c : Int) (F A F' A' : List (List Int)) (f f' : List Bool) (x1 : Ev (fun k => class_Has.f k t l a b c F A f) true) (x2 : Ev (fun k => class_Has.f k t l a b c F' A' f') true) (h1 : F.length ≤ 100) (h2 : A.length ≤ 100) (h3 : f.length ≤ 100) (e1 : F.length = F'.length) (e2 : A.length = A'.length) (e3 : f.length = f'.length) (hc : ∀ v, cmpT (F ++ A) (F' ++ A') = some v → v = decide (p < q) ∧ p ≠ q) (hn : cmpT (F ++ A) (F' ++ A') = none → (match cmpF f f' with | some v => v = decide (p < q) ∧ p ≠ q | none => p = q)) : Ev (fun k => crossroadslaw17_ClassApart.j0 k p q false t l a b c F A f F' A' f') true := by
  refine Ev.step (f := fun k => ((class_Has.f k t l a b c F A f).bind fun t501 => (if t501 = true then ((class_Has.f k t l a b c F' A' f').bind fun t502 => (if t502 = true then ((crossroadsref17_Same.f k F A f F' A' f').bind fun t503 => (crossroadslaw17_ClassApart.j1 k p q (t503 != (p == q)) F A f F' A' f')) else (crossroadslaw17_ClassApart.j1 k p q true F A f F' A' f'))) else (crossroadslaw17_ClassApart.j1 k p q true F A f F' A' f')))) (fun k => by rw [crossroadslaw17_ClassApart.j0, if_neg (by decide)]) ?_
  refine Ev.bind x1 (Ev.congr (fun k => if_pos rfl) (Ev.bind x2 (Ev.congr (fun k => if_pos rfl) (Ev.bind (same_is F A F' A' f f' (by omega) (by omega) (by omega) e1 e2 e3) ?_))))
  have hs : (((cmpT (F ++ A) (F' ++ A')).isNone && (cmpF f f').isNone) != (p == q)) = false := by
    cases ht : cmpT (F ++ A) (F' ++ A') with
    | some v =>
      have := (hc v ht).2
      simp [this]
    | none =>
      have h := hn ht
      cases hf : cmpF f f' with
      | some v => rw [hf] at h; simp [h.2]
      | none => rw [hf] at h; simp [h]
  rw [hs]
  exact ap_j1 p q F A F' A' f f' h1 h2 h3 e1 e2 e3 (fun v h => (hc v h).1) (fun h => by
    have := hn h
    cases hf : cmpF f f' with
    | some v => rw [hf] at this; exact this.1
    | none => rw [hf] at this; exact this)
theorem nth_in {t : List S38} {l : List Int} {a b c n : Int} (h : noneB t l a b c n = false) : mayC t l a b c = true ∧ 0 ≤ n ∧ n < waysC a b * prod (capsC t l) := by
  unfold noneB at h
  simp only [Bool.or_eq_false_iff, decide_eq_false_iff_not] at h
  have hm : mayC t l a b c = true := by
    cases hm : mayC t l a b c
    · exfalso
      have h2 := h.2.1
      unfold countC at h2
      rw [hm, if_neg (by decide)] at h2
      omega
    · rfl
  obtain ⟨_, _, _, h4, h5, _, _, _⟩ := may_bounds hm
  have hw := ways_is (b := b) h4 (by omega)
  have hw1 := hw.2.2.2 h5.1
  have hcc : countC t l a b c = cntC (waysC a b) (capsC t l) := by unfold countC; rw [if_pos hm]
  rw [hcc, cnt_min _ _ hw1 (by omega)] at h
  refine ⟨hm, by omega, ?_⟩
  have h2 := h.2.1
  have h3 := h.2.2
  split at h2
  · omega
  · rename_i hh
    rw [if_neg hh] at h3
    exact absurd rfl h3
/-- Two numbers, two inputs; what is less is less. -/
theorem ClassApart : crossroadslaw17_ClassApart.Pure := by
  intro t l a b c n m ht hl ha hb hc hn hm
  have hz : sizesB t = true := by
    unfold sizesB
    rw [List.all_eq_true]
    exact fun x hx => decide_eq_true (ht.2.2 x hx).1
  have ht1 : t.length ≤ 4398046511104 := by omega
  have hn1 : 0 ≤ n ∧ n ≤ 65535 := by simp [Lit.wf, IntKind.min, IntKind.max, IntKind.bits, IntKind.signed] at hn; omega
  have hm1 : 0 ≤ m ∧ m ≤ 65535 := by simp [Lit.wf, IntKind.min, IntKind.max, IntKind.bits, IntKind.signed] at hm; omega
  obtain ⟨s, hs⟩ := small_ev t l a b c ht1
  refine Ev.rounds (r := true) ?_
  unfold crossroadslaw17_ClassApart.f
  refine Ev.bind awake_ev ?_
  refine Ev.congr (fun k => if_pos rfl) ?_
  refine Ev.bind hs ?_
  cases s
  · exact Ev.congr (fun k => if_neg (by decide)) (Ev.now _)
  · refine Ev.congr (fun k => if_pos rfl) ?_
    rw [w64 (x := n) (by omega), w64 (x := m) (by omega)]
    have e1 : class_Nth.f t l a b c n = some (nthC t l a b c n) := if_pos hz
    have e2 : class_Nth.f t l a b c m = some (nthC t l a b c m) := if_pos hz
    rw [e1, e2]
    simp only [Option.bind_some]
    cases hb1 : noneB t l a b c n
    · cases hb2 : noneB t l a b c m
      · have x1 := nth_has hb1
        have x2 := nth_has hb2
        obtain ⟨hmay, hn0, hnp⟩ := nth_in hb1
        obtain ⟨_, hm0, hmp⟩ := nth_in hb2
        obtain ⟨h1, h2, h3, h4, h5, h6, h7, _⟩ := may_bounds hmay
        have hw := ways_is (b := b) h4 (by omega)
        have hw1 := hw.2.2.2 h5.1
        have hcl := @caps_len t l
        have n1 : nthC t l a b c n = ((nthRow (capsC t l) (n / waysC a b)).take (filesL t).length, (nthRow (capsC t l) (n / waysC a b)).drop (filesL t).length, failsC (n % waysC a b) a b, true) := by
          unfold nthC
          rw [hb1, if_neg (by decide)]
        have n2 : nthC t l a b c m = ((nthRow (capsC t l) (m / waysC a b)).take (filesL t).length, (nthRow (capsC t l) (m / waysC a b)).drop (filesL t).length, failsC (m % waysC a b) a b, true) := by
          unfold nthC
          rw [hb2, if_neg (by decide)]
        rw [n1, n2]
        refine Ev.congr (fun k => if_pos rfl) ?_
        have q1 : 0 ≤ n % waysC a b ∧ n % waysC a b < waysC a b := ⟨Int.emod_nonneg _ (by omega), Int.emod_lt_of_pos _ (by omega)⟩
        have q2 : 0 ≤ m % waysC a b ∧ m % waysC a b < waysC a b := ⟨Int.emod_nonneg _ (by omega), Int.emod_lt_of_pos _ (by omega)⟩
        have f1 := ((rows_is h4 h5).2.2 _ q1).2
        have f2 := ((rows_is h4 h5).2.2 _ q2).2
        have l1 := nthRow_len (capsC t l) (n / waysC a b)
        have l2 := nthRow_len (capsC t l) (m / waysC a b)
        have hp := prod_pos (capsC t l)
        have g1 : n / waysC a b / prod (capsC t l) = 0 := Int.ediv_eq_zero_of_lt (Int.ediv_nonneg hn0 (by omega)) (Int.ediv_lt_of_lt_mul (by omega) (by rw [Int.mul_comm]; exact hnp))
        have g2 : m / waysC a b / prod (capsC t l) = 0 := Int.ediv_eq_zero_of_lt (Int.ediv_nonneg hm0 (by omega)) (Int.ediv_lt_of_lt_mul (by omega) (by rw [Int.mul_comm]; exact hmp))
        have hrow := cmp_row (capsC t l) (n / waysC a b) (m / waysC a b) (Int.ediv_nonneg hn0 (by omega)) (Int.ediv_nonneg hm0 (by omega)) (by rw [g1, g2])
        rw [← nthRow_row, ← nthRow_row] at hrow
        have hfl := cmp_fails h4 h5 q1 q2
        have ev1 := has_ev t l a b c ((nthRow (capsC t l) (n / waysC a b)).take (filesL t).length) ((nthRow (capsC t l) (n / waysC a b)).drop (filesL t).length) (failsC (n % waysC a b) a b) hz ht1 (by omega)
        have ev2 := has_ev t l a b c ((nthRow (capsC t l) (m / waysC a b)).take (filesL t).length) ((nthRow (capsC t l) (m / waysC a b)).drop (filesL t).length) (failsC (m % waysC a b) a b) hz ht1 (by omega)
        rw [x1] at ev1
        rw [x2] at ev2
        have d1 := Int.mul_ediv_add_emod n (waysC a b)
        have d2 := Int.mul_ediv_add_emod m (waysC a b)
        have hlt : n / waysC a b < m / waysC a b → n < m := fun h => by
          apply Decidable.byContradiction
          intro hh
          have := Int.ediv_le_ediv (show 0 < waysC a b by omega) (show m ≤ n by omega)
          omega
        have hgt : m / waysC a b < n / waysC a b → m < n := fun h => by
          apply Decidable.byContradiction
          intro hh
          have := Int.ediv_le_ediv (show 0 < waysC a b by omega) (show n ≤ m by omega)
          omega
        generalize hX : nthRow (capsC t l) (n / waysC a b) = X at *
        generalize hY : nthRow (capsC t l) (m / waysC a b) = Y at *
        generalize hN : n / waysC a b = N at *
        generalize hM : m / waysC a b = M at *
        refine ap_j0 n m t l a b c _ _ _ _ _ _ ev1 ev2 ?_ ?_ ?_ ?_ ?_ ?_ ?_ ?_
        · rw [List.length_take]; omega
        · rw [List.length_drop]; omega
        · show (failsC (n % waysC a b) a b).length ≤ 100
          omega
        · rw [List.length_take, List.length_take]; omega
        · rw [List.length_drop, List.length_drop]; omega
        · show (failsC (n % waysC a b) a b).length = (failsC (m % waysC a b) a b).length
          omega
        · intro v hv
          rw [List.take_append_drop, List.take_append_drop, hrow] at hv
          by_cases hNM : N = M
          · rw [if_pos hNM] at hv; cases hv
          · rw [if_neg hNM] at hv
            injection hv with hv
            rw [← hv]
            by_cases h : N < M
            · have := hlt h
              rw [decide_eq_true h, decide_eq_true this]
              exact ⟨rfl, by omega⟩
            · have := hgt (by omega)
              rw [decide_eq_false h, decide_eq_false (by omega)]
              exact ⟨rfl, by omega⟩
        · intro hv
          rw [List.take_append_drop, List.take_append_drop, hrow] at hv
          have hNM : N = M := by
            apply Decidable.byContradiction
            intro h
            rw [if_neg h] at hv; cases hv
          rw [hNM] at d1
          rw [hfl]
          generalize n % waysC a b = u at *
          generalize m % waysC a b = v at *
          by_cases huv : u = v
          · rw [if_pos huv]
            show n = m
            omega
          · rw [if_neg huv]
            refine ⟨?_, by omega⟩
            rw [decide_eq_decide]
            omega
      · have n1 : (nthC t l a b c m).2.2.2 = false := by unfold nthC; rw [hb2, if_pos rfl]
        have n2 : (nthC t l a b c n).2.2.2 = true := by unfold nthC; rw [hb1, if_neg (by decide)]
        rw [n1, n2]
        exact Ev.congr (fun k => if_pos rfl) (ja_true _ _ _ _ _ _ _ _ _ _ _ _ _)
    · have n1 : (nthC t l a b c n).2.2.2 = false := by unfold nthC; rw [hb1, if_pos rfl]
      rw [n1]
      exact Ev.congr (fun k => if_neg (by decide)) (ja_true _ _ _ _ _ _ _ _ _ _ _ _ _)
end Go.Proofs.Ytmlnoapfhimgoaa.Pure
