/- The program's tree and the reference's are made of the same entries. Plain. -/
import Derived.Test.YtmlnoapfhimgoaaRefT
namespace Go.Proofs.Ytmlnoapfhimgoaa.Tree
set_option linter.unusedVariables false
set_option linter.unusedSimpArgs false
open Go.RowKit Go.Maps Go.Proofs.Ytmlnoapfhimgoaa.G Go.Proofs.Ytmlnoapfhimgoaa.P Go.Proofs.Ytmlnoapfhimgoaa.Q Go.Proofs.Ytmlnoapfhimgoaa.Lem Go.Proofs.YtmlnoapfhimgoaaW.PrintWords Go.Proofs.YtmlnoapfhimgoaaW.PrintLast Go.Proofs.YtmlnoapfhimgoaaW.PrintMore
theorem ba_inj {a b : ByteArray} (h : a.data.toList = b.data.toList) : a = b := WideShapes.bytes_inj h
theorem part_ne {l : List UInt8} (h : partL l = true) : l ≠ [] := by
  rintro rfl
  simp [partL, goodL] at h
theorem part_slash' {l : List UInt8} (h : partL l = true) : 47 ∉ l := by
  intro hm
  unfold partL at h
  rw [Bool.and_eq_true] at h
  have := List.all_eq_true.1 h.1 47 hm
  revert this
  decide
/-- A name: one part, or two. -/
theorem may_form {a : ByteArray} (h : mayB a = true) :
    (47 ∉ a.data.toList ∧ partL a.data.toList = true ∧ splitB a = ((⟨#[]⟩ : ByteArray), a)) ∨
    ∃ x y, a.data.toList = x ++ 47 :: y ∧ partL x = true ∧ partL y = true ∧ (splitB a).1.data.toList = x ∧ (splitB a).2.data.toList = y := by
  have hc := h
  rw [may_is, Bool.and_eq_true] at hc
  have hk := hc.2
  unfold checkL at hk
  rcases slash_at a.data.toList with ⟨h1, h2⟩ | ⟨x, y, he, h2, h3⟩
  · rw [if_neg (by omega)] at hk
    refine .inl ⟨h2, hk, ?_⟩
    unfold splitB slashAt
    rw [if_pos h, if_neg (by omega)]
  · rw [h3, if_pos (by omega), Bool.and_eq_true] at hk
    have e1 : (x ++ 47 :: y).take ((x.length : Int)).toNat = x := by simp
    have e2 : (x ++ 47 :: y).drop (((x.length : Int)).toNat + 1) = y := by simp [List.drop_append]
    rw [he, e1, e2] at hk
    have hs : slashAt a = (x.length : Int) := h3
    have hp : 0 ≤ slashAt a := by omega
    refine .inr ⟨x, y, he, hk.1, hk.2, ?_, ?_⟩
    · unfold splitB
      rw [if_pos h, if_pos hp]
      show (a.extract 0 (slashAt a).toNat).data.toList = x
      rw [ext1 a hp, hs, he, e1]
    · unfold splitB
      rw [if_pos h, if_pos hp]
      show (a.extract (slashAt a + 1).toNat a.size).data.toList = y
      rw [ext2 a hp, hs, he, e2]
theorem split_last {a : ByteArray} (h : mayB a = true) : (splitB a).2.toList ≠ [] := by
  rw [ByteArray.toList_eq]
  rcases may_form h with ⟨_, h2, h3⟩ | ⟨x, y, _, _, h4, _, h6⟩
  · rw [h3]; exact part_ne h2
  · rw [h6]; exact part_ne h4
theorem empty_data : (⟨#[]⟩ : ByteArray).data.toList = [] := rfl
theorem split_inj {a b : ByteArray} (ha : mayB a = true) (hb : mayB b = true) : b.toList = a.toList ↔ splitB b = splitB a := by
  rw [ByteArray.toList_eq, ByteArray.toList_eq]
  constructor
  · intro h; rw [ba_inj h]
  · intro h
    rcases may_form ha with ⟨_, h2, h3⟩ | ⟨x, y, e1, h2, h4, h5, h6⟩ <;> rcases may_form hb with ⟨_, k2, k3⟩ | ⟨x', y', e2, k2, k4, k5, k6⟩
    · rw [h3, k3] at h
      injection h with _ h
      rw [h]
    · rw [h, h3] at k5
      exact absurd k5.symm (part_ne k2)
    · rw [← h, k3] at h5
      exact absurd h5.symm (part_ne h2)
    · rw [h] at k5 k6
      rw [e1, e2, ← h5, ← h6, k5, k6]
theorem split_dir {a b : ByteArray} (ha : mayB a = true) (hd : (splitB a).1.toList ≠ []) (hb : mayB b = true) : b.toList = (splitB a).1.toList ↔ splitB b = ((⟨#[]⟩ : ByteArray), (splitB a).1) := by
  rw [ByteArray.toList_eq] at hd ⊢
  rw [ByteArray.toList_eq]
  rcases may_form ha with ⟨_, h2, h3⟩ | ⟨x, y, e1, h2, h4, h5, h6⟩
  · rw [h3] at hd; exact absurd rfl hd
  · rcases may_form hb with ⟨_, k2, k3⟩ | ⟨x', y', e2, k2, k4, k5, k6⟩
    · rw [k3]
      constructor
      · intro h; rw [ba_inj h]
      · intro h
        injection h with _ h
        rw [h]
    · constructor
      · intro h
        rw [h5, e2] at h
        exact absurd (h ▸ (show (47 : UInt8) ∈ x' ++ 47 :: y' by simp)) (part_slash' h2)
      · intro h
        rw [h] at k5
        exact absurd k5.symm (part_ne k2)
def entOf (x : S38) : Ent := (splitB x.f0, x.f1)
theorem at_find (p : ByteArray) (q : ByteArray × ByteArray) : ∀ (its : List S38) (i : Int), (∀ x ∈ its, x.f0.toList = p.toList ↔ splitB x.f0 = q) →
    (atFrom p its i = -1 ∧ findE (its.map entOf) q = none) ∨ ∃ (j : Nat) (x : S38), its[j]? = some x ∧ atFrom p its i = i + j ∧ findE (its.map entOf) q = some x.f1
  | [], i, _ => .inl ⟨rfl, rfl⟩
  | x :: r, i, h => by
    by_cases hx : x.f0.toList = p.toList
    · refine .inr ⟨0, x, rfl, by unfold atFrom; rw [if_pos hx]; simp, ?_⟩
      have := (h x List.mem_cons_self).1 hx
      unfold findE entOf
      simp [this]
    · have hn : ¬ splitB x.f0 = q := fun e => hx ((h x List.mem_cons_self).2 e)
      have hf : findE ((x :: r).map entOf) q = findE (r.map entOf) q := by
        unfold findE
        rw [List.map_cons, List.find?_cons]
        have : decide ((entOf x).1 = q) = false := decide_eq_false hn
        rw [this]
      have ha : atFrom p (x :: r) i = atFrom p r (i + 1) := by rw [atFrom, if_neg hx]
      rw [hf, ha]
      rcases at_find p q r (i + 1) (fun y hy => h y (List.mem_cons_of_mem _ hy)) with h1 | ⟨j, y, h1, h2, h3⟩
      · exact .inl h1
      · exact .inr ⟨j + 1, y, by simpa using h1, by rw [h2]; omega, h3⟩
theorem ref_is_ok (its : List S38) (h : ∀ x ∈ its, mayB x.f0 = true) (a : ByteArray) (dir : Bool) : refE its a dir = okE (its.map entOf) a dir := by
  unfold refE okE
  cases ha : mayB a
  · rfl
  · rw [Bool.true_and, Bool.true_and]
    have hl := split_last ha
    have h1 := at_find a (splitB a) its 0 (fun x hx => split_inj ha (h x hx))
    unfold makeI aboveI refD
    rw [if_neg hl]
    by_cases hd : (splitB a).1.toList = ([] : List UInt8)
    · rw [if_pos hd, if_pos hd, if_pos rfl]
      rcases h1 with ⟨e1, e2⟩ | ⟨j, x, e0, e1, e2⟩
      · rw [show atI its a = -1 from e1, show findE (its.map entOf) ((splitB a).1, (splitB a).2) = none from e2]
        cases dir <;> simp [hd]
      · rw [show atI its a = 0 + j from e1, show findE (its.map entOf) ((splitB a).1, (splitB a).2) = some x.f1 from e2]
        simp
    · rw [if_neg hd, if_neg hd]
      have h2 := at_find (splitB a).1 ((⟨#[]⟩ : ByteArray), (splitB a).1) its 0 (fun x hx => split_dir ha hd (h x hx))
      rcases h2 with ⟨f1, f2⟩ | ⟨i, y, f0, f1, f2⟩
      · rw [show atI its (splitB a).1 = -1 from f1, f2]
        simp
      · rw [show atI its (splitB a).1 = 0 + i from f1, f2]
        have hy : (rd_T38 its (0 + i)).f1 = y.f1 := by
          unfold rd_T38
          rw [List.getD_eq_getElem?_getD, show (0 + (i : Int)).toNat = i by omega, f0]; rfl
        rw [hy]
        rcases h1 with ⟨e1, e2⟩ | ⟨j, x, e0, e1, e2⟩
        · rw [show atI its a = -1 from e1, show findE (its.map entOf) ((splitB a).1, (splitB a).2) = none from e2]
          cases dir <;> cases y.f1 <;> simp [hd]
        · rw [show atI its a = 0 + j from e1, show findE (its.map entOf) ((splitB a).1, (splitB a).2) = some x.f1 from e2]
          have : ¬ ((0 : Int) + j < 0) := by omega
          cases dir <;> cases y.f1 <;> simp [hd, this] <;> omega
theorem new_is : ∀ (l its : List S38) (i : Int), (∀ x ∈ its, mayB x.f0 = true) → newR l its i = newB l (its.map entOf)
  | [], _, _, _ => rfl
  | x :: r, its, i, h => by
    rw [newR, newB, ref_is_ok its h]
    cases hm : mayB x.f0
    · unfold okE; rw [hm]; rfl
    · rw [new_is r _ (i + 1) (fun y hy => by
        rcases List.mem_append.1 hy with hy | hy
        · exact h y hy
        · rw [List.mem_singleton.1 hy]; exact hm)]
      rw [List.map_append]; rfl
theorem tree_is (l : List S38) : treeR l = treeB l := by
  unfold treeR treeB
  rw [new_is l [] 0 (by simp)]; rfl
end Go.Proofs.Ytmlnoapfhimgoaa.Tree
