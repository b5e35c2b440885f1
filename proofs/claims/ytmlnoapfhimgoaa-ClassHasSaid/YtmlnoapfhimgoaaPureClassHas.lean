/- ClassHas, the plain part: both come to the same closed words. -/
import Derived.Test.YtmlnoapfhimgoaaHasL
import Derived.Test.YtmlnoapfhimgoaaCntL
import Derived.Test.YtmlnoapfhimgoaaAwake
import Derived.Test.YtmlnoapfhimgoaaPx10
namespace Go.Proofs.Ytmlnoapfhimgoaa.Pure
set_option linter.unusedVariables false
set_option linter.unusedSimpArgs false
open Go.RowKit Go.Proofs.Ytmlnoapfhimgoaa.G Go.Proofs.Ytmlnoapfhimgoaa.Tree Go.Proofs.Ytmlnoapfhimgoaa.Cls Go.Proofs.Ytmlnoapfhimgoaa.P Go.Proofs.YtmlnoapfhimgoaaW.PrintWords Go.Proofs.YtmlnoapfhimgoaaW.PrintLast Go.Proofs.YtmlnoapfhimgoaaW.PrintMore
theorem rhas_l2 (t : List S38) (l : List Int) (a b c : Int) (F A : List (List Int)) (fs : List Bool) (hl : fs.length ≤ 9223372036854775807) : ∀ (d : List Bool) (n : Int) (i : Nat), i ≤ fs.length → fs.drop i = d → 0 ≤ n ∧ n ≤ i → Ev (fun k => crossroadsref17_Has.l2 k n (i : Int) t l a b c F A fs) (decide (n + cntT d ≤ b))
  | [], n, i, hi, h, hn => by
    have hlen := len_of_drop hi h
    simp only [List.length_nil] at hlen
    refine Ev.step (f := fun _ => some (decide (n + cntT [] ≤ b))) (fun k => ?_) (Ev.now _)
    rw [crossroadsref17_Has.l2, if_neg (by omega), cntT, Int.add_zero]
  | x :: d, n, i, hi, h, hn => by
    obtain ⟨hlt, hx, hd⟩ := at_drop (z := false) h
    have hx : rdOf false fs (i : Int) = x := hx
    have hw : wrap64 ((i : Int) + 1) = ((i + 1 : Nat) : Int) := by unfold wrap64; omega
    cases x
    · have ih := rhas_l2 t l a b c F A fs hl d n (i + 1) (by omega) hd (by omega)
      refine Ev.step (fun k => ?_) (by rw [cntT, if_neg (by decide), Int.zero_add]; exact ih)
      rw [crossroadsref17_Has.l2, if_pos (by omega), if_pos (by omega), hx, if_neg (by decide), hw]
    · have ih := rhas_l2 t l a b c F A fs hl d (n + 1) (i + 1) (by omega) hd (by omega)
      refine Ev.step (fun k => ?_) (by rw [cntT, if_pos rfl, ← Int.add_assoc]; exact ih)
      rw [crossroadsref17_Has.l2, if_pos (by omega), if_pos (by omega), hx, if_pos rfl, hw, w64 (x := n + 1) (by omega)]
theorem rhas_l1 (t : List S38) (l : List Int) (a b c : Int) (F A : List (List Int)) (fs : List Bool) (hl : fs.length ≤ 9223372036854775807) (hA : A.length = l.length) (hll : l.length ≤ 1000) : ∀ (g : List (List Int)) (d : List Int) (i : Nat), i ≤ A.length → A.drop i = g → l.drop i = d → Ev (fun k => crossroadsref17_Has.l1 k (i : Int) t l a b c F A fs) (allLe g d && decide (cntT fs ≤ b))
  | [], d, i, hi, hg, h => by
    have h1 := len_of_drop hi hg
    simp only [List.length_nil] at h1
    have h2 := rhas_l2 t l a b c F A fs hl fs 0 0 (by omega) rfl (by omega)
    rw [Int.zero_add] at h2
    have e : allLe [] d = true := by cases d <;> rfl
    refine Ev.step (fun k => ?_) (by rw [e, Bool.true_and]; exact h2)
    rw [crossroadsref17_Has.l1, if_neg (by omega)]
    rfl
  | x :: g, [], i, hi, hg, h => by
    have h1 := len_of_drop hi hg
    have h2 := len_of_drop (by omega) h
    simp at h1 h2
    omega
  | x :: g, c2 :: d, i, hi, hg, h => by
    obtain ⟨hlt, hx, hgd⟩ := at_drop (z := []) hg
    have hx : rd_L7 A (i : Int) = x := hx
    obtain ⟨hlt2, hc, hd⟩ := at_drop (z := 0) h
    have hc : rd l (i : Int) = c2 := hc
    have ih := rhas_l1 t l a b c F A fs hl hA hll g d (i + 1) (by omega) hgd hd
    have hw : wrap64 ((i : Int) + 1) = ((i + 1 : Nat) : Int) := by unfold wrap64; omega
    rw [allLe]
    by_cases hle : (x.length : Int) ≤ c2
    · refine Ev.step (fun k => ?_) (by rw [decide_eq_true hle, Bool.true_and]; exact ih)
      rw [crossroadsref17_Has.l1, if_pos (by omega), if_pos (by omega), if_pos (by omega), hx, hc, if_neg (by omega), hw]
    · refine Ev.step (f := fun _ => some false) (fun k => ?_) (by rw [decide_eq_false hle, Bool.false_and, Bool.false_and]; exact Ev.now _)
      rw [crossroadsref17_Has.l1, if_pos (by omega), if_pos (by omega), if_pos (by omega), hx, hc, if_pos (by omega)]
theorem rhas_l0 (t : List S38) (l : List Int) (a b c : Int) (F A : List (List Int)) (fs : List Bool) (C : List Int) (hl : fs.length ≤ 9223372036854775807) (hA : A.length = l.length) (hll : l.length ≤ 1000) (hF : F.length ≤ C.length) (hC : C.length ≤ 1000) : ∀ (g : List (List Int)) (d : List Int) (i : Nat), i ≤ F.length → F.drop i = g → C.drop i = d → Ev (fun k => crossroadsref17_Has.l0 k C (i : Int) t l a b c F A fs) (allLe g d && (allLe A l && decide (cntT fs ≤ b)))
  | [], d, i, hi, hg, h => by
    have h1 := len_of_drop hi hg
    simp only [List.length_nil] at h1
    have h2 := rhas_l1 t l a b c F A fs hl hA hll A l 0 (by omega) rfl rfl
    have e : allLe [] d = true := by cases d <;> rfl
    refine Ev.step (fun k => ?_) (by rw [e, Bool.true_and]; exact h2)
    rw [crossroadsref17_Has.l0, if_neg (by omega)]
    rfl
  | x :: g, [], i, hi, hg, h => by
    have h1 := len_of_drop hi hg
    have h2 := len_of_drop (by omega) h
    simp at h1 h2
    omega
  | x :: g, c2 :: d, i, hi, hg, h => by
    obtain ⟨hlt, hx, hgd⟩ := at_drop (z := []) hg
    have hx : rd_L7 F (i : Int) = x := hx
    obtain ⟨hlt2, hc, hd⟩ := at_drop (z := 0) h
    have hc : rd C (i : Int) = c2 := hc
    have ih := rhas_l0 t l a b c F A fs C hl hA hll hF hC g d (i + 1) (by omega) hgd hd
    have hw : wrap64 ((i : Int) + 1) = ((i + 1 : Nat) : Int) := by unfold wrap64; omega
    rw [allLe]
    by_cases hle : (x.length : Int) ≤ c2
    · refine Ev.step (fun k => ?_) (by rw [decide_eq_true hle, Bool.true_and]; exact ih)
      rw [crossroadsref17_Has.l0, if_pos (by omega), if_pos (by omega), if_pos (by omega), hx, hc, if_neg (by omega), hw]
    · refine Ev.step (f := fun _ => some false) (fun k => ?_) (by rw [decide_eq_false hle, Bool.false_and, Bool.false_and]; exact Ev.now _)
      rw [crossroadsref17_Has.l0, if_pos (by omega), if_pos (by omega), if_pos (by omega), hx, hc, if_pos (by omega)]
theorem rfiles_ev (t : List S38) (l : List Int) (a b c : Int) (hz : t.length ≤ 4398046511104) (hl : t.length + l.length < 17592186044416) : Ev (fun k => crossroadsref17_files.f k t l a b c) ((filesL t).length : Int) := by
  have h1 : wrap64 (((capsC t l).length : Int) - (l.length : Int)) = ((filesL t).length : Int) := by
    have h2 := @caps_len t l
    have h3 := filesFrom_le t 0
    unfold filesL at h2 ⊢
    unfold wrap64
    omega
  rw [← h1]
  exact Ev.bind (prcaps_is t l a b c hz hl) (Ev.now _)
theorem allLe_front : ∀ (F : List (List Int)) (C l : List Int), F.length = C.length → allLe F (C ++ l) = allLe F C
  | [], [], l, h => by cases l <;> rfl
  | x :: F, c :: C, l, h => by rw [List.cons_append, allLe, allLe, allLe_front F C l (by simpa using h)]
theorem rhas_j0_true (t : List S38) (l : List Int) (a b c : Int) (F A : List (List Int)) (fs : List Bool) : Ev (fun k => crossroadsref17_Has.j0 k true t l a b c F A fs) false :=
  Ev.step (f := fun _ => some false) (fun k => by rw [crossroadsref17_Has.j0, if_pos rfl]) (Ev.now _)
theorem rhas_ev (t : List S38) (l : List Int) (a b c : Int) (F A : List (List Int)) (fs : List Bool) (hz : sizesB t = true) (ht : t.length ≤ 4398046511104) (hl : l.length ≤ 17592186043904) (hfs : fs.length ≤ 9223372036854775807) : Ev (fun k => crossroadsref17_Has.f k t l a b c F A fs) (hasC t l a b c F A fs) := by
  unfold crossroadsref17_Has.f hasC
  rw [rmayf hz hl]
  simp only [Option.bind_some]
  cases hm : mayC t l a b c
  · exact Ev.congr (fun k => if_neg (by decide)) (by rw [Bool.false_and]; exact rhas_j0_true _ _ _ _ _ _ _ _)
  · obtain ⟨h1, h2, h3, h4, h5, h6, h7, _⟩ := may_bounds hm
    refine Ev.congr (fun k => if_pos rfl) ?_
    rw [Bool.true_and]
    refine Ev.bind (rfiles_ev t l a b c ht (by omega)) ?_
    by_cases hF : (F.length : Int) = ((filesL t).length : Int)
    · by_cases hA : (A.length : Int) = (l.length : Int)
      · refine Ev.congr (fun k => (if_pos hF).trans (if_pos hA)) ?_
        rw [decide_eq_true (show F.length = (filesL t).length by omega), decide_eq_true (show A.length = l.length by omega), Bool.true_and, Bool.true_and]
        by_cases hfl : (fs.length : Int) = a
        · rw [show ((fs.length : Int) != a) = false by simp [hfl], decide_eq_true hfl, Bool.true_and]
          have hfc : F.length = (fcaps t).length := by rw [fcaps_len t 0]; unfold filesL at hF; omega
          have hcl := @caps_len t l
          refine Ev.step (f := fun k => (crossroadsref17_Caps.f k t l a b c).bind fun t315 => (crossroadsref17_Has.l0 k t315 0 t l a b c F A fs)) (fun k => ?_) ?_
          · rw [crossroadsref17_Has.j0, if_neg (by decide)]
          · refine Ev.bind (prcaps_is t l a b c ht (by omega)) ?_
            have := rhas_l0 t l a b c F A fs (capsC t l) hfs (by omega) (by omega) (by omega) (by omega) F (capsC t l) 0 (by omega) rfl rfl
            rw [show allLe F (capsC t l) = _ from allLe_front F (fcaps t) l hfc] at this
            have e : (decide (cntT fs ≤ b) && (allLe F (fcaps t) && allLe A l)) = (allLe F (fcaps t) && (allLe A l && decide (cntT fs ≤ b))) := by
              cases decide (cntT fs ≤ b) <;> cases allLe F (fcaps t) <;> cases allLe A l <;> rfl
            rw [e]
            exact this
        · rw [show ((fs.length : Int) != a) = true by simp [hfl], decide_eq_false hfl, Bool.false_and]
          exact rhas_j0_true _ _ _ _ _ _ _ _
      · refine Ev.congr (fun k => (if_pos hF).trans (if_neg hA)) ?_
        rw [decide_eq_false (show ¬ A.length = l.length by omega), Bool.false_and, Bool.and_false]
        exact rhas_j0_true _ _ _ _ _ _ _ _
    · refine Ev.congr (fun k => if_neg hF) ?_
      rw [decide_eq_false (show ¬ F.length = (filesL t).length by omega), Bool.false_and]
      exact rhas_j0_true _ _ _ _ _ _ _ _
theorem jh_true (t : List S38) (l : List Int) (a b c : Int) (F A : List (List Int)) (fs : List Bool) : Ev (fun k => crossroadslaw17_ClassHas.j0 k true t l a b c F A fs) true :=
  Ev.step (f := fun _ => some true) (fun k => by rw [crossroadslaw17_ClassHas.j0, if_pos rfl]) (Ev.now _)
theorem jh_false (t : List S38) (l : List Int) (a b c : Int) (F A : List (List Int)) (fs : List Bool) (hz : sizesB t = true) (ht : t.length ≤ 4398046511104) (hl : l.length ≤ 17592186043904) (hfs : fs.length ≤ 9223372036854775807) : Ev (fun k => crossroadslaw17_ClassHas.j0 k false t l a b c F A fs) true := by
  refine Ev.step (f := fun k => (class_Has.f k t l a b c F A fs).bind fun t327 => ((crossroadsref17_Has.f k t l a b c F A fs).bind fun t328 => (some (t327 == t328)))) (fun k => by rw [crossroadslaw17_ClassHas.j0, if_neg (by decide)]) ?_
  refine Ev.bind (has_ev t l a b c F A fs hz ht hfs) (Ev.bind (rhas_ev t l a b c F A fs hz ht hl hfs) ?_)
  rw [beq_self_eq_true]
  exact Ev.now _
/-- What is of a class, is of it by both. -/
theorem ClassHas : crossroadslaw17_ClassHas.Pure := by
  intro t l a b c F A fs ht hl ha hb hc hF hA hfs
  have hz : sizesB t = true := by
    unfold sizesB
    rw [List.all_eq_true]
    exact fun x hx => decide_eq_true (ht.2.2 x hx).1
  have ht1 : t.length ≤ 4398046511104 := by omega
  have hll : l.length ≤ 17592186043904 := by omega
  have hf1 := hfs.2.1
  obtain ⟨s, hs⟩ := small_ev t l a b c ht1
  refine Ev.rounds (r := true) ?_
  unfold crossroadslaw17_ClassHas.f
  refine Ev.bind awake_ev ?_
  refine Ev.congr (fun k => if_pos rfl) ?_
  refine Ev.bind hs ?_
  cases s
  · exact Ev.congr (fun k => if_neg (by decide)) (jh_true _ _ _ _ _ _ _ _)
  · refine Ev.congr (fun k => if_pos rfl) ?_
    by_cases h1 : (F.length : Int) > 60
    · exact Ev.congr (fun k => if_pos h1) (jh_true _ _ _ _ _ _ _ _)
    · by_cases h2 : (A.length : Int) > 60
      · exact Ev.congr (fun k => (if_neg h1).trans (if_pos h2)) (jh_true _ _ _ _ _ _ _ _)
      · refine Ev.congr (fun k => (if_neg h1).trans (if_neg h2)) ?_
        cases decide ((fs.length : Int) > 60)
        · exact jh_false t l a b c F A fs hz ht1 hll hf1
        · exact jh_true _ _ _ _ _ _ _ _
end Go.Proofs.Ytmlnoapfhimgoaa.Pure
