/- ClassAll, the plain part. -/
import Derived.Test.YtmlnoapfhimgoaaCntL
import Derived.Test.YtmlnoapfhimgoaaAwake
import Derived.Test.YtmlnoapfhimgoaaPx5
namespace Go.Proofs.Ytmlnoapfhimgoaa.Pure
set_option linter.unusedVariables false
set_option linter.unusedSimpArgs false
open Go.RowKit Go.Proofs.Ytmlnoapfhimgoaa.G Go.Proofs.Ytmlnoapfhimgoaa.Tree Go.Proofs.Ytmlnoapfhimgoaa.Cls Go.Proofs.Ytmlnoapfhimgoaa.P Go.Proofs.YtmlnoapfhimgoaaW.PrintWords Go.Proofs.YtmlnoapfhimgoaaW.PrintLast Go.Proofs.YtmlnoapfhimgoaaW.PrintMore
theorem j0_true (x : Int) (t : List S38) (l : List Int) (a b c : Int) : Ev (fun k => crossroadslaw17_ClassAll.j0 k x true t l a b c) true :=
  Ev.step (f := fun _ => some true) (fun k => by rw [crossroadslaw17_ClassAll.j0, if_pos rfl]) (Ev.now _)
theorem count_min {t : List S38} {l : List Int} {a b c : Int} (h : mayC t l a b c = true) : 1 ≤ waysC a b ∧ waysC a b ≤ 64 ∧ countC t l a b c = if waysC a b * prod (capsC t l) < 1099511627776 then waysC a b * prod (capsC t l) else 1099511627776 := by
  obtain ⟨h1, h2, h3, h4, h5, h6, h7, _⟩ := may_bounds h
  have hw := ways_is (b := b) h4 (by omega)
  refine ⟨hw.2.2.2 h5.1, hw.2.2.1, ?_⟩
  unfold countC
  rw [if_pos h, cnt_min _ _ (hw.2.2.2 h5.1) (by omega)]
theorem rd_texts {c : Int} (h : 0 ≤ c ∧ c ≤ 3) : rd ([1, 257, 65793, 16843009] : List Int) c = textsC c := by
  have : c = 0 ∨ c = 1 ∨ c = 2 ∨ c = 3 := by omega
  rcases this with rfl | rfl | rfl | rfl <;> rfl
theorem may_ok {t : List S38} {l : List Int} {a b c : Int} (h : mayC t l a b c = true) : t.all okT = true := by
  unfold mayC at h
  simp only [Bool.and_eq_true] at h
  exact h.2.1
theorem j0_all (x1 : Int) (t : List S38) (l : List Int) (a b c : Int) (hx : 0 ≤ x1 ∧ x1 ≤ 255) (hz : sizesB t = true) (hl : l.length ≤ 17592186043904) (hm : mayC t l a b c = true) (h0 : t.length ≠ 0) : Ev (fun k => crossroadslaw17_ClassAll.j0 k x1 false t l a b c) true := by
  obtain ⟨h1, h2, h3, h4, h5, h6, h7, _⟩ := may_bounds hm
  obtain ⟨kk, hkk⟩ : ∃ kk : Int, Int.tmod (wrap64 x1) (t.length : Int) = kk := ⟨_, rfl⟩
  have hk : 0 ≤ kk ∧ kk < t.length := by
    rw [← hkk, w64 (by omega), Int.tmod_eq_emod_of_nonneg hx.1]
    exact ⟨Int.emod_nonneg _ (by omega), Int.emod_lt_of_pos _ (by omega)⟩
  have hlt : kk.toNat < t.length := by omega
  have hrd : rd_T38 t kk = t[kk.toNat] := by unfold rd_T38; rw [List.getD_eq_getElem?_getD, List.getElem?_eq_getElem hlt]; rfl
  obtain ⟨z, hzz⟩ : ∃ z : S38, (⟨(rd_T38 t kk).f0, (rd_T38 t kk).f1, wrap64 (((rd_T38 t kk).f2) + 1)⟩ : S38) = z := ⟨_, rfl⟩
  obtain ⟨t', ht'⟩ : ∃ t' : List S38, t.set kk.toNat z = t' := ⟨_, rfl⟩
  have hz' : sizesB t' = true := by
    rw [← ht']
    unfold sizesB at hz ⊢
    rw [List.all_eq_true] at hz ⊢
    intro x hxm
    rcases List.mem_or_eq_of_mem_set hxm with hx1 | rfl
    · exact hz x hx1
    · rw [← hzz, hrd]
      have h := hz (t[kk.toNat]) (List.getElem_mem hlt)
      exact h
  have hrd' : rd_T38 t' kk = z := by
    unfold rd_T38
    rw [← ht', List.getD_eq_getElem?_getD, List.getElem?_set_self hlt]; rfl
  have e : ∀ k, crossroadslaw17_ClassAll.j0 (k + 1) x1 false t l a b c = (if mayC t' l a b c = true then ((class_Count.f k t l a b c).bind fun t212 => ((class_Count.f k t' l a b c).bind fun t213 => (if t213 ≥ 1099511627776 then (some (decide (t213 ≥ t212))) else (if t212 ≥ 1099511627776 then (some (decide (t213 ≥ t212))) else (if 0 ≤ ((rd_T38 t kk).f2) then (if ((rd_T38 t kk).f2) < (([1, 257, 65793, 16843009] : List Int).length : Int) then (if (rd [1, 257, 65793, 16843009] ((rd_T38 t kk).f2)) = 0 then (none) else (if 0 ≤ ((rd_T38 t' kk).f2) then (if ((rd_T38 t' kk).f2) < (([1, 257, 65793, 16843009] : List Int).length : Int) then (if (wrap64 ((wrap64 (Int.tdiv t212 (rd [1, 257, 65793, 16843009] ((rd_T38 t kk).f2)))) * (rd [1, 257, 65793, 16843009] ((rd_T38 t' kk).f2)))) = t213 then (some ((Int.tmod t212 (rd [1, 257, 65793, 16843009] ((rd_T38 t kk).f2))) == 0)) else (none)) else (none)) else (none))) else (none)) else (none)))))) else ((class_Count.f k t' l a b c).bind fun t211 => (some (t211 == 0)))) := fun k => by
    rw [crossroadslaw17_ClassAll.j0, if_neg (by decide), if_neg (by omega)]
    simp only [Option.bind_some]
    rw [if_pos (by simp; omega), List.nil_append, hkk, if_pos hk.1, if_pos hk.2, hzz, ht', rmayf hz' hl, mayf hz']
    simp only [Option.bind_some]
    simp only [if_pos hk.2]
    cases mayC t' l a b c <;> simp
  refine Ev.step e ?_
  have c1 := count_is t l a b c hz
  have c2 := count_is t' l a b c hz'
  cases hm' : mayC t' l a b c
  · refine Ev.congr (f := fun k => (class_Count.f k t' l a b c).bind fun t211 => (some (t211 == 0))) (fun k => by simp) ?_
    refine Ev.bind c2 ?_
    rw [show countC t' l a b c = 0 by unfold countC; rw [hm', if_neg (by decide)]]
    exact Ev.now _
  · refine Ev.congr (fun k => if_pos rfl) ?_
    refine Ev.bind c1 (Ev.bind c2 ?_)
    obtain ⟨hw1, hw2, m1⟩ := count_min hm
    obtain ⟨_, _, m2⟩ := count_min hm'
    have o1 := List.all_eq_true.1 (may_ok hm) _ (List.getElem_mem hlt)
    have o2 := List.all_eq_true.1 (may_ok hm') z (by rw [← ht']; exact List.mem_iff_getElem.2 ⟨kk.toNat, by simpa using hlt, by simp⟩)
    unfold okT fitsB at o1 o2
    simp only [Bool.and_eq_true, decide_eq_true_eq] at o1 o2
    have hz2 : z.f2 = (rd_T38 t kk).f2 + 1 := by rw [← hzz, hrd]; exact w64 (by omega)
    have hz1 : z.f1 = (t[kk.toNat]).f1 := by rw [← hzz, hrd]
    have hd : (t[kk.toNat]).f1 = false := by
      cases hd : (t[kk.toNat]).f1
      · rfl
      · exfalso
        have a1 := o1.2
        have a2 := o2.2
        rw [hz1, hd] at a2
        rw [hd] at a1
        simp at a1 a2
        rw [hz2, hrd] at a2
        omega
    obtain ⟨R, hR, p1, p2⟩ := fcaps_set t kk.toNat hlt hd
    have p2 := p2 z (hz1.trans hd)
    rw [ht'] at p2
    have q1 : prod (capsC t l) = textsC (rd_T38 t kk).f2 * (R * prod l) := by unfold capsC; rw [prod_append, p1, hrd, Int.mul_assoc]
    have q2 : prod (capsC t' l) = textsC ((rd_T38 t kk).f2 + 1) * (R * prod l) := by unfold capsC; rw [prod_append, p2, hz2, Int.mul_assoc]
    have hlp := prod_pos l
    obtain ⟨M, hM⟩ : ∃ M, waysC a b * (R * prod l) = M := ⟨_, rfl⟩
    have hM1 : 1 ≤ M := by
      rw [← hM]
      have h1 := Int.mul_le_mul hR hlp (by omega) (by omega)
      have h2 := Int.mul_le_mul hw1 (show 1 ≤ R * prod l by omega) (by omega) (by omega)
      omega
    have hc3 : 0 ≤ (rd_T38 t kk).f2 ∧ (rd_T38 t kk).f2 + 1 ≤ 3 := by rw [← hz2]; rw [hrd]; omega
    rw [q1, Int.mul_left_comm, hM] at m1
    rw [q2, Int.mul_left_comm, hM] at m2
    rw [rd_texts (c := (rd_T38 t kk).f2) (by omega), hrd', hz2, rd_texts (c := (rd_T38 t kk).f2 + 1) (by omega)]
    obtain ⟨x, hxx⟩ : ∃ x, countC t l a b c = x := ⟨_, rfl⟩
    obtain ⟨y, hyy⟩ : ∃ y, countC t' l a b c = y := ⟨_, rfl⟩
    rw [hxx] at m1 ⊢
    rw [hyy] at m2 ⊢
    have hmono : textsC (rd_T38 t kk).f2 ≤ textsC ((rd_T38 t kk).f2 + 1) ∧ textsC (rd_T38 t kk).f2 ≥ 1 := by
      have := textsC_pos (rd_T38 t kk).f2
      have h3 : (rd_T38 t kk).f2 = 0 ∨ (rd_T38 t kk).f2 = 1 ∨ (rd_T38 t kk).f2 = 2 := by omega
      rcases h3 with h | h | h <;> rw [h] <;> decide
    have hxy := Int.mul_le_mul_of_nonneg_right hmono.1 (show 0 ≤ M by omega)
    obtain ⟨u, hu⟩ : ∃ u, textsC (rd_T38 t kk).f2 = u := ⟨_, rfl⟩
    obtain ⟨v, hv⟩ : ∃ v, textsC ((rd_T38 t kk).f2 + 1) = v := ⟨_, rfl⟩
    rw [hu] at m1 hxy hmono ⊢
    rw [hv] at m2 hxy hmono ⊢
    by_cases hy : y ≥ 1099511627776
    · rw [if_pos hy]
      rw [show decide (y ≥ x) = true from decide_eq_true (by split at m1 <;> omega)]
      exact Ev.now _
    · rw [if_neg hy]
      have hyv : v * M < 1099511627776 := by
        apply Decidable.byContradiction
        intro hn
        rw [if_neg hn] at m2
        omega
      rw [if_pos hyv] at m2
      rw [if_pos (by omega)] at m1
      have hdiv : Int.tdiv x u = M := by rw [m1, Int.mul_tdiv_cancel_left _ (by omega)]
      have hmod : Int.tmod x u = 0 := by rw [m1]; exact Int.mul_tmod_right _ _
      have hMv := Int.mul_le_mul_of_nonneg_right (show 1 ≤ v by omega) (show 0 ≤ M by omega)
      rw [if_neg (by omega), if_pos hc3.1, if_pos (by show _ < ((4 : Nat) : Int); omega), if_neg (by omega), if_pos (by omega), if_pos (by show _ < ((4 : Nat) : Int); omega), hdiv, hmod, w64 (x := M) (by omega), Int.mul_comm M v, w64 (x := v * M) (by omega), if_pos (by omega)]
      exact Ev.now _
theorem sizes_of {t : List S38} (h : ∀ y ∈ t, (y.f0.size ≤ 140737488351232 ∧ (True ∧ (Lit.int .i64 y.f2).wf = true))) : sizesB t = true := by
  unfold sizesB
  rw [List.all_eq_true]
  exact fun x hx => decide_eq_true (h x hx).1
/-- A cap one higher: as many more inputs. -/
theorem ClassAll : crossroadslaw17_ClassAll.Pure := by
  intro t l a b c x1 ht hl ha hb hc hx1
  have hx : 0 ≤ x1 ∧ x1 ≤ 255 := by simp [Lit.wf, IntKind.min, IntKind.max, IntKind.bits, IntKind.signed] at hx1; omega
  have hz := sizes_of ht.2.2
  have hll : l.length ≤ 17592186043904 := by omega
  obtain ⟨s, hs⟩ := small_ev t l a b c (by omega)
  refine Ev.rounds (r := true) ?_
  unfold crossroadslaw17_ClassAll.f
  refine Ev.bind awake_ev ?_
  refine Ev.congr (fun k => if_pos rfl) ?_
  refine Ev.bind hs ?_
  cases s
  · exact Ev.congr (fun k => if_neg (by decide)) (j0_true _ _ _ _ _ _)
  · refine Ev.congr (fun k => if_pos rfl) ?_
    rw [rmayf hz hll]
    simp only [Option.bind_some]
    cases hm : mayC t l a b c
    · exact Ev.congr (fun k => if_neg (by decide)) (j0_true _ _ _ _ _ _)
    · refine Ev.congr (fun k => if_pos rfl) ?_
      by_cases h0 : t.length = 0
      · rw [show ((t.length : Int) == 0) = true by rw [h0]; rfl]
        exact j0_true _ _ _ _ _ _
      · rw [show ((t.length : Int) == 0) = false by simp; intro h; rw [h] at h0; simp at h0]
        exact j0_all x1 t l a b c hx hz hll hm h0
end Go.Proofs.Ytmlnoapfhimgoaa.Pure
