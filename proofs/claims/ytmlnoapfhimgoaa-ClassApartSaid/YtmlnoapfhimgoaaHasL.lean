/- class.Has in closed words. Plain. -/
import Derived.Test.YtmlnoapfhimgoaaPx2
import Derived.Test.YtmlnoapfhimgoaaClassC
namespace Go.Proofs.Ytmlnoapfhimgoaa.Pure
set_option linter.unusedVariables false
set_option linter.unusedSimpArgs false
open Go.RowKit Go.Proofs.Ytmlnoapfhimgoaa.G Go.Proofs.Ytmlnoapfhimgoaa.Tree Go.Proofs.Ytmlnoapfhimgoaa.Cls Go.Proofs.Ytmlnoapfhimgoaa.P Go.Proofs.YtmlnoapfhimgoaaW.PrintWords Go.Proofs.YtmlnoapfhimgoaaW.PrintLast Go.Proofs.YtmlnoapfhimgoaaW.PrintMore
def cntT : List Bool → Int
  | [] => 0
  | x :: r => (if x = true then 1 else 0) + cntT r
def allLe : List (List Int) → List Int → Bool
  | x :: r, c :: d => decide ((x.length : Int) ≤ c) && allLe r d
  | _, _ => true
def hasC (t : List S38) (l : List Int) (a b c : Int) (F A : List (List Int)) (fs : List Bool) : Bool :=
  mayC t l a b c && (decide (F.length = (filesL t).length) && (decide (A.length = l.length) && (decide ((fs.length : Int) = a) && (decide (cntT fs ≤ b) && (allLe F (fcaps t) && allLe A l)))))
theorem at_drop {α : Type} {z : α} {L d : List α} {x : α} {i : Nat} (h : L.drop i = x :: d) : i < L.length ∧ L.getD ((i : Int)).toNat z = x ∧ L.drop (i + 1) = d := by
  have hlt : i < L.length := by
    apply Decidable.byContradiction
    intro hn
    rw [List.drop_eq_nil_of_le (by omega)] at h
    cases h
  have h2 := h
  rw [List.drop_eq_getElem_cons hlt] at h2
  injection h2 with h3 h4
  refine ⟨hlt, ?_, h4⟩
  rw [List.getD_eq_getElem?_getD, Int.toNat_natCast, List.getElem?_eq_getElem hlt]
  exact h3
theorem len_of_drop {α : Type} {L d : List α} {i : Nat} (hi : i ≤ L.length) (h : L.drop i = d) : i + d.length = L.length := by rw [← h, List.length_drop]; omega
theorem fails_l0 (fs : List Bool) (a b : Int) (hl : fs.length ≤ 9223372036854775807) : ∀ (d : List Bool) (n : Int) (i : Nat), i ≤ fs.length → fs.drop i = d → 0 ≤ n ∧ n ≤ i → Ev (fun k => fails_May.l0 k fs a b n fs (fs.length : Int) (i : Int)) (decide ((fs.length : Int) = a) && (decide (a ≤ 6) && decide (n + cntT d ≤ b)))
  | [], n, i, hi, h, hn => by
    have hlen := len_of_drop hi h
    simp only [List.length_nil] at hlen
    refine Ev.step (f := fun _ => some (decide ((fs.length : Int) = a) && (decide (a ≤ 6) && decide (n + cntT [] ≤ b)))) (fun k => ?_) (Ev.now _)
    rw [fails_May.l0, if_neg (by omega), cntT, Int.add_zero]
    by_cases h1 : (fs.length : Int) = a
    · by_cases h2 : a ≤ 6
      · rw [if_pos h1, if_pos h2, decide_eq_true h1, decide_eq_true h2, Bool.true_and, Bool.true_and]
      · rw [if_pos h1, if_neg h2, decide_eq_true h1, decide_eq_false h2, Bool.true_and, Bool.false_and]
    · rw [if_neg h1, decide_eq_false h1, Bool.false_and]
  | x :: d, n, i, hi, h, hn => by
    obtain ⟨hlt, hx, hd⟩ := at_drop (z := false) h
    have hx : rdOf false fs (i : Int) = x := hx
    have hw : wrap64 ((i : Int) + 1) = ((i + 1 : Nat) : Int) := by unfold wrap64; omega
    cases x
    · have ih := fails_l0 fs a b hl d n (i + 1) (by omega) hd (by omega)
      refine Ev.step (fun k => ?_) (by rw [cntT, if_neg (by decide), Int.zero_add]; exact ih)
      rw [fails_May.l0, if_pos (by omega), if_pos (by omega), if_pos (by omega), hx, if_neg (by decide), hw]
    · have ih := fails_l0 fs a b hl d (n + 1) (i + 1) (by omega) hd (by omega)
      refine Ev.step (fun k => ?_) (by rw [cntT, if_pos rfl, ← Int.add_assoc]; exact ih)
      rw [fails_May.l0, if_pos (by omega), if_pos (by omega), if_pos (by omega), hx, if_pos rfl, hw, w64 (x := n + 1) (by omega)]
theorem fails_ev (fs : List Bool) (a b : Int) (hl : fs.length ≤ 9223372036854775807) : Ev (fun k => fails_May.f k fs a b) (decide ((fs.length : Int) = a) && (decide (a ≤ 6) && decide (cntT fs ≤ b))) := by
  have := fails_l0 fs a b hl fs 0 0 (by omega) rfl (by omega)
  rw [Int.zero_add] at this
  exact this
theorem has_l0 (F A : List (List Int)) (fs : List Bool) (C : List Int) (hC : C.length ≤ 1000) : ∀ (d : List Int) (g : List (List Int)) (i : Nat), i ≤ C.length → C.drop i = d → (F ++ A).drop i = g → (F ++ A).length = C.length → Ev (fun k => class_Has.l0 k (F.length : Int) C (C.length : Int) (i : Int) F A fs) (allLe g d)
  | [], g, i, hi, h, hg, hl => by
    have h1 := len_of_drop hi h
    simp only [List.length_nil] at h1
    refine Ev.step (f := fun _ => some (allLe g [])) (fun k => ?_) (Ev.now _)
    rw [class_Has.l0, if_neg (by omega)]
    cases g <;> rfl
  | c :: d, [], i, hi, h, hg, hl => by
    have h1 := len_of_drop hi h
    have h2 := len_of_drop (by omega) hg
    simp at h1 h2 hl
    omega
  | c :: d, x :: g, i, hi, h, hg, hl => by
    obtain ⟨hlt, hc, hd⟩ := at_drop (z := 0) h
    have hc : rd C (i : Int) = c := hc
    obtain ⟨hlt2, hx, hgd⟩ := at_drop (z := []) hg
    have ih := has_l0 F A fs C hC d g (i + 1) (by omega) hd hgd hl
    have hw : wrap64 ((i : Int) + 1) = ((i + 1 : Nat) : Int) := by unfold wrap64; omega
    have hfa : (F ++ A).length = F.length + A.length := List.length_append
    rw [allLe]
    by_cases hF : i < F.length
    · have hx : rd_L7 F (i : Int) = x := by
        unfold rd_L7
        rw [← hx, List.getD_eq_getElem?_getD, List.getD_eq_getElem?_getD, List.getElem?_append_left (by omega)]
      by_cases hle : (x.length : Int) ≤ c
      · refine Ev.step (fun k => ?_) (by rw [decide_eq_true hle, Bool.true_and]; exact ih)
        rw [class_Has.l0, if_pos (by omega), if_pos (by omega), if_pos (by omega), if_pos (by omega), if_pos (by omega), hx, hc, if_neg (by omega), if_neg (by omega), hw]
      · refine Ev.step (f := fun _ => some false) (fun k => ?_) (by rw [decide_eq_false hle, Bool.false_and]; exact Ev.now _)
        rw [class_Has.l0, if_pos (by omega), if_pos (by omega), if_pos (by omega), if_pos (by omega), if_pos (by omega), hx, hc, if_pos (by omega)]
    · have hwi : wrap64 ((i : Int) - (F.length : Int)) = ((i - F.length : Nat) : Int) := by unfold wrap64; omega
      have hx : rd_L7 A (((i - F.length : Nat) : Int)) = x := by
        unfold rd_L7
        rw [← hx, List.getD_eq_getElem?_getD, List.getD_eq_getElem?_getD, List.getElem?_append_right (by omega)]
        rfl
      by_cases hle : (x.length : Int) ≤ c
      · refine Ev.step (fun k => ?_) (by rw [decide_eq_true hle, Bool.true_and]; exact ih)
        rw [class_Has.l0, if_pos (by omega), if_pos (by omega), if_pos (by omega), if_neg (by omega), if_pos (by omega), hwi, if_pos (by omega), if_pos (by omega), hx, hc, if_neg (by omega), hw]
      · refine Ev.step (f := fun _ => some false) (fun k => ?_) (by rw [decide_eq_false hle, Bool.false_and]; exact Ev.now _)
        rw [class_Has.l0, if_pos (by omega), if_pos (by omega), if_pos (by omega), if_neg (by omega), if_pos (by omega), hwi, if_pos (by omega), if_pos (by omega), hx, hc, if_pos (by omega)]
theorem allLe_append : ∀ (F : List (List Int)) (C : List Int) (A : List (List Int)) (l : List Int), F.length = C.length → allLe (F ++ A) (C ++ l) = (allLe F C && allLe A l)
  | [], [], A, l, h => by show allLe A l = (true && allLe A l); rw [Bool.true_and]
  | x :: F, c :: C, A, l, h => by
    rw [List.cons_append, List.cons_append, allLe, allLe, allLe_append F C A l (by simpa using h), Bool.and_assoc]
theorem has_j0_true (n : Int) (t : List S38) (l : List Int) (a b c : Int) (F A : List (List Int)) (fs : List Bool) : Ev (fun k => class_Has.j0 k n true t l a b c F A fs) false :=
  Ev.step (f := fun _ => some false) (fun k => by rw [class_Has.j0, if_pos rfl]) (Ev.now _)
theorem has_ev (t : List S38) (l : List Int) (a b c : Int) (F A : List (List Int)) (fs : List Bool) (hz : sizesB t = true) (ht : t.length ≤ 4398046511104) (hfs : fs.length ≤ 9223372036854775807) : Ev (fun k => class_Has.f k t l a b c F A fs) (hasC t l a b c F A fs) := by
  unfold class_Has.f hasC
  refine Ev.bind (pfiles_is t l a b c ht) ?_
  rw [mayf hz]
  simp only [Option.bind_some]
  cases hm : mayC t l a b c
  · exact Ev.congr (fun k => if_neg (by decide)) (by rw [Bool.false_and]; exact has_j0_true _ _ _ _ _ _ _ _ _)
  · obtain ⟨h1, h2, h3, h4, h5, h6, h7, _⟩ := may_bounds hm
    refine Ev.congr (fun k => if_pos rfl) ?_
    rw [Bool.true_and]
    by_cases hF : (F.length : Int) = ((filesL t).length : Int)
    · by_cases hA : (A.length : Int) = (l.length : Int)
      · refine Ev.congr (fun k => (if_pos hF).trans (if_pos hA)) ?_
        rw [decide_eq_true (show F.length = (filesL t).length by omega), decide_eq_true (show A.length = l.length by omega), Bool.true_and, Bool.true_and]
        refine Ev.bind (fails_ev fs a b hfs) ?_
        rw [decide_eq_true h4.2, Bool.true_and]
        by_cases hfl : (fs.length : Int) = a
        · by_cases hct : cntT fs ≤ b
          · rw [decide_eq_true hfl, decide_eq_true hct, Bool.true_and, Bool.true_and, Bool.true_and]
            have hfc : F.length = (fcaps t).length := by rw [fcaps_len t 0]; unfold filesL at hF; omega
            have hcl := @caps_len t l
            refine Ev.step (f := fun k => (class_Caps.f k t l a b c).bind fun t138 => (class_Has.l0 k ((filesL t).length : Int) t138 (t138.length : Int) 0 F A fs)) (fun k => ?_) ?_
            · rw [class_Has.j0, if_neg (by decide)]
            · refine Ev.bind (pcaps_is t l a b c ht (by omega)) ?_
              have := has_l0 F A fs (capsC t l) (by omega) (capsC t l) (F ++ A) 0 (by omega) rfl rfl (by rw [List.length_append]; omega)
              rw [hF, show allLe (F ++ A) (capsC t l) = _ from allLe_append F (fcaps t) A l hfc] at this
              exact this
          · rw [decide_eq_false hct, Bool.false_and, Bool.and_false]
            exact has_j0_true _ _ _ _ _ _ _ _ _
        · rw [decide_eq_false hfl, Bool.false_and, Bool.false_and]
          exact has_j0_true _ _ _ _ _ _ _ _ _
      · refine Ev.congr (fun k => (if_pos hF).trans (if_neg hA)) ?_
        rw [decide_eq_false (show ¬ A.length = l.length by omega), Bool.false_and, Bool.and_false]
        exact has_j0_true _ _ _ _ _ _ _ _ _
    · refine Ev.congr (fun k => if_neg hF) ?_
      rw [decide_eq_false (show ¬ F.length = (filesL t).length by omega), Bool.false_and]
      exact has_j0_true _ _ _ _ _ _ _ _ _
end Go.Proofs.Ytmlnoapfhimgoaa.Pure
