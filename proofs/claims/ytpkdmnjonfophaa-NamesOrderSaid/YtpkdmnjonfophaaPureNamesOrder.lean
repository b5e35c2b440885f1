/- NamesOrder, the plain part: of two names one is less just if the other is not, but where they are one; less goes on; joined again the parts are the name. -/
import Derived.Test.YtpkdmnjonfophaaPureNamesSplit
import Derived.Test.YtpkdmnjonfophaaPx3
import Derived.Sort.Walk0
namespace Go.Proofs.Ytpkdmnjonfophaa.Pure
set_option linter.unusedVariables false
set_option linter.unusedSimpArgs false
open Go.RowKit Go.Proofs.Ytpkdmnjonfophaa.G Go.Proofs.Ytpkdmnjonfophaa.P Go.Proofs.Ytpkdmnjonfophaa.Lem Go.Proofs.YtpkdmnjonfophaaW.PrintWords Go.Proofs.YtpkdmnjonfophaaW.PrintLast Go.Proofs.YtpkdmnjonfophaaW.PrintMore
/-- The parts joined again. -/
def joinB (p : ByteArray × ByteArray) : ByteArray := if p.1.toList = [] then p.2 else (p.1 ++ (⟨#[47]⟩ : ByteArray)) ++ p.2
theorem split_no {a : ByteArray} (hm : mayB a = true) (h0 : ¬ 0 ≤ slashAt a) : splitB a = ((⟨#[]⟩ : ByteArray), a) := by
  unfold splitB; rw [if_pos hm, if_neg h0]
theorem split_yes {a : ByteArray} (hm : mayB a = true) (h0 : 0 ≤ slashAt a) : splitB a = (a.extract 0 (slashAt a).toNat, a.extract (slashAt a + 1).toNat a.size) := by
  unfold splitB; rw [if_pos hm, if_pos h0]
theorem join_split {a : ByteArray} (hm : mayB a = true) : joinB (splitB a) = a := by
  by_cases h0 : 0 ≤ slashAt a
  · rw [split_yes hm h0]
    unfold joinB
    rw [if_neg ((may_deep a hm).1 h0).2]
    apply WideShapes.bytes_inj
    rw [ByteArray.data_append, Array.toList_append, ByteArray.data_append, Array.toList_append, ext1 a h0, ext2 a h0]
    have hs : Lib.indexByte a.data.toList 47 = slashAt a := rfl
    rcases slash_at a.data.toList with ⟨h1, _⟩ | ⟨x, y, hxy, h2, h3⟩
    · rw [hs] at h1; omega
    · rw [hs] at h3
      have e1 : a.data.toList.take (slashAt a).toNat = x := by rw [hxy, h3]; simp
      have e2 : a.data.toList.drop ((slashAt a).toNat + 1) = y := by rw [hxy, h3]; simp [List.drop_append]
      rw [e1, e2, hxy]
      simp
  · rw [split_no hm h0]
    unfold joinB
    rw [if_pos (ByteArray.toList_eq _)]
theorem less_iff (a b : ByteArray) : lessB a b = true ↔ ((splitB a).1.toList < (splitB b).1.toList ∨ ((splitB a).1.toList = (splitB b).1.toList ∧ (splitB a).2.toList < (splitB b).2.toList)) := by
  unfold lessB
  rw [Proofs.bytesLess_eq, Proofs.bytesLess_eq]
  by_cases h1 : (splitB a).1.toList < (splitB b).1.toList
  · rw [if_pos (decide_eq_true h1)]; simp [h1]
  · rw [if_neg (by rw [decide_eq_false h1]; decide)]
    by_cases h2 : (splitB a).1.toList = (splitB b).1.toList
    · rw [if_pos h2]
      simp [h2, List.lt_irrefl]
    · rw [if_neg h2]
      simp [h1, h2]
theorem less_asym {a b : ByteArray} (h : lessB a b = true) : lessB b a = false := by
  apply Bool.eq_false_iff.mpr
  intro h'
  rcases (less_iff a b).1 h with h1 | ⟨h1, h2⟩ <;> rcases (less_iff b a).1 h' with h3 | ⟨h3, h4⟩
  · exact List.lt_irrefl _ (List.lt_trans h1 h3)
  · rw [h3] at h1; exact List.lt_irrefl _ h1
  · rw [h1] at h3; exact List.lt_irrefl _ h3
  · exact List.lt_irrefl _ (List.lt_trans h2 h4)
theorem less_trans {a b c : ByteArray} (h : lessB a b = true) (h' : lessB b c = true) : lessB a c = true := by
  rw [less_iff] at h h' ⊢
  rcases h with h1 | ⟨h1, h2⟩ <;> rcases h' with h3 | ⟨h3, h4⟩
  · exact .inl (List.lt_trans h1 h3)
  · exact .inl (h3 ▸ h1)
  · exact .inl (h1 ▸ h3)
  · exact .inr ⟨h1.trans h3, List.lt_trans h2 h4⟩
theorem less_irrefl (a : ByteArray) : lessB a a = false := by
  apply Bool.eq_false_iff.mpr
  intro h
  have := less_asym h
  rw [h] at this; cases this
theorem tl_inj {a b : ByteArray} (h : a.toList = b.toList) : a = b := by
  rw [ByteArray.toList_eq, ByteArray.toList_eq] at h
  exact WideShapes.bytes_inj h
theorem less_total {a b : ByteArray} (ha : mayB a = true) (hb : mayB b = true) (h1 : lessB a b = false) (h2 : lessB b a = false) : a = b := by
  have n1 : ¬ ((splitB a).1.toList < (splitB b).1.toList ∨ ((splitB a).1.toList = (splitB b).1.toList ∧ (splitB a).2.toList < (splitB b).2.toList)) := fun h => by
    have := (less_iff a b).2 h; rw [h1] at this; cases this
  have n2 : ¬ ((splitB b).1.toList < (splitB a).1.toList ∨ ((splitB b).1.toList = (splitB a).1.toList ∧ (splitB b).2.toList < (splitB a).2.toList)) := fun h => by
    have := (less_iff b a).2 h; rw [h2] at this; cases this
  have e1 : (splitB a).1.toList = (splitB b).1.toList := List.le_antisymm (List.not_lt.1 fun h => n2 (.inl h)) (List.not_lt.1 fun h => n1 (.inl h))
  have e2 : (splitB a).2.toList = (splitB b).2.toList := List.le_antisymm (List.not_lt.1 fun h => n2 (.inr ⟨e1.symm, h⟩)) (List.not_lt.1 fun h => n1 (.inr ⟨e1, h⟩))
  have e : splitB a = splitB b := Prod.ext (tl_inj e1) (tl_inj e2)
  rw [← join_split ha, ← join_split hb, e]
theorem order_j1 (a b c : ByteArray) (ha : a.size ≤ 140737488351232) (hb : b.size ≤ 140737488351232) (hc : c.size ≤ 140737488351232) (ma : mayB a = true) (mb : mayB b = true) :
    Ev (fun k => crossroadslaw12_NamesOrder.j1 k a b c a) true := by
  have lab := less_is a b ha hb
  have lba := less_is b a hb ha
  have lbc := less_is b c hb hc
  have lac := less_is a c ha hc
  refine Ev.step (fun k => by rw [crossroadslaw12_NamesOrder.j1, if_pos rfl]) (Ev.bind lab ?_)
  cases q : lessB a b with
  | true =>
    rw [q] at lab
    have hne : ((a.toList == b.toList) == false) = true := by
      have : (a.toList == b.toList) = false := beq_eq_false_iff_ne.mpr (fun h => by
        have := tl_inj h
        subst this
        rw [less_irrefl] at q; cases q)
      rw [this]; rfl
    have hba := less_asym q
    rw [hba] at lba
    refine Ev.congr (fun k => by rw [if_pos rfl, if_pos hne]) (Ev.bind lab ?_)
    refine Ev.congr (fun k => by rw [if_pos rfl]) (Ev.bind lba ?_)
    refine Ev.congr (fun k => by rw [if_neg (by decide)]) (Ev.bind lab ?_)
    refine Ev.congr (fun k => by rw [if_pos rfl]) (Ev.bind lbc ?_)
    cases q2 : lessB b c with
    | true =>
      rw [less_trans q q2] at lac
      exact Ev.congr (fun k => by rw [if_pos rfl]) (Ev.bind lac (Ev.now _))
    | false => exact Ev.congr (f := fun _ => some true) (fun k => by rw [if_neg (by decide)]) (Ev.now _)
  | false =>
    rw [q] at lab
    refine Ev.congr (fun k => by rw [if_neg (by decide)]) (Ev.bind lba ?_)
    have hcond : ((a.toList == b.toList) == (!(lessB b a))) = true := by
      cases q2 : lessB b a with
      | true =>
        have : (a.toList == b.toList) = false := beq_eq_false_iff_ne.mpr (fun h => by
          have := tl_inj h
          subst this
          rw [less_irrefl] at q2; cases q2)
        rw [this]; rfl
      | false =>
        have := less_total ma mb q q2
        subst this
        simp
    refine Ev.congr (fun k => by rw [if_pos hcond]) (Ev.bind lab ?_)
    refine Ev.congr (fun k => by rw [if_neg (by decide)]) (Ev.bind lab ?_)
    exact Ev.congr (f := fun _ => some true) (fun k => by rw [if_neg (by decide)]) (Ev.now _)
theorem NamesOrder : crossroadslaw12_NamesOrder.Pure := by
  intro a b c ha hb hc
  refine Ev.rounds ?_
  unfold crossroadslaw12_NamesOrder.f
  refine Ev.bind names_awake ?_
  have yes : Ev (fun k => crossroadslaw12_NamesOrder.j0 k a b c true) true := Ev.step (fun k => by rw [crossroadslaw12_NamesOrder.j0, if_pos rfl]) (Ev.now true)
  unfold crossroadsref12_NameMay.f
  refine Ev.congr (f := fun k => if mayB a = true then (if mayB b = true then (crossroadslaw12_NamesOrder.j0 k a b c (!(mayB c))) else (crossroadslaw12_NamesOrder.j0 k a b c true)) else (crossroadslaw12_NamesOrder.j0 k a b c true)) (fun k => by rw [if_pos rfl]; rfl) ?_
  by_cases ma : mayB a = true
  · by_cases mb : mayB b = true
    · cases mc : mayB c with
      | false => exact Ev.congr (fun k => by rw [if_pos ma, if_pos mb]; rfl) yes
      | true =>
        have hz : a.size ≤ 8 := by
          rw [may_is] at ma
          simp only [Bool.and_eq_true, decide_eq_true_eq] at ma
          exact ma.1.2
        refine Ev.congr (f := fun k => crossroadslaw12_NamesOrder.j0 k a b c false) (fun k => by rw [if_pos ma, if_pos mb]; rfl) ?_
        refine Ev.step (fun k => by rw [crossroadslaw12_NamesOrder.j0, if_neg (by decide)]) (Ev.bind (split_is a ha) ?_)
        have hj := join_split ma
        have h := order_j1 a b c ha hb hc ma mb
        refine Ev.congr (fun k => ?_) h
        by_cases h0 : (splitB a).1.toList = []
        · rw [if_pos h0]
          have : (splitB a).2 = a := by
            unfold joinB at hj
            rw [if_pos h0] at hj
            exact hj
          rw [this]
        · rw [if_neg h0]
          unfold joinB at hj
          rw [if_neg h0] at hj
          have hsz : ((splitB a).1 ++ (⟨#[47]⟩ : ByteArray)).size + (splitB a).2.size = a.size := by
            rw [← ByteArray.size_append, hj]
          have hsz1 : (splitB a).1.size + 1 = ((splitB a).1 ++ (⟨#[47]⟩ : ByteArray)).size := by
            rw [ByteArray.size_append]; rfl
          rw [if_pos (by omega), if_pos (by omega), hj]
    · exact Ev.congr (fun k => by rw [if_pos ma, if_neg mb]) yes
  · exact Ev.congr (fun k => by rw [if_neg ma]) yes
end Go.Proofs.Ytpkdmnjonfophaa.Pure
