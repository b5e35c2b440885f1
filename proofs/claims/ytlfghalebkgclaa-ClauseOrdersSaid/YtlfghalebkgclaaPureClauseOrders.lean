/- The plain law of ClauseOrders: in whatever order, however often literals stand, a clause is normally one. -/
import Derived.Test.YtlfghalebkgclaaPx5
import Derived.Test.YtlfghalebkgclaaLemB
namespace Go.Proofs.Ytlfghalebkgclaa.Pure
open Go.RowKit Go.Proofs.Ytlfghalebkgclaa.G Go.Proofs.Ytlfghalebkgclaa.P Go.Proofs.Ytlfghalebkgclaa.Lem Go.Proofs.YtlfghalebkgclaaW.PrintWords Go.Proofs.YtlfghalebkgclaaW.PrintLast Go.Proofs.YtlfghalebkgclaaW.PrintMore
theorem rd_lt (c : List Int) (i : Int) (h0 : 0 ≤ i) (h1 : i < c.length) : rd c i ∈ c := by
  unfold rd
  rw [List.getD_eq_getElem?_getD, List.getElem?_eq_getElem (show i.toNat < c.length by omega)]
  exact List.getElem_mem _
theorem orders_l0 (c : List Int) (turn : Int) (hc : ∀ v ∈ c, W64 v) (hl : c.length ≤ 200) (hl0 : 1 ≤ c.length) (ht : 0 ≤ turn ∧ turn ≤ 255) :
    ∀ (s : List Int) (i : Nat) (d : List Int), c.drop i = s → i ≤ c.length → d.length = 2 * i → (∀ v ∈ d, v ∈ c) → (∀ j : Nat, j < i → rd c ((c.length : Int) - 1 - j) ∈ d) → Ev (fun k => crossroadslaw4_ClauseOrders.l0 k c turn d (i : Int)) true := by
  intro s
  induction s with
  | nil =>
    intro i d hi hile hd hm hs
    have hil : c.length ≤ i := by have := congrArg List.length hi; rw [List.length_drop, List.length_nil] at this; omega
    have hii : i = c.length := by omega
    have hsame : ∀ v, v ∈ c ↔ v ∈ d := fun v => ⟨fun hv => by
      obtain ⟨j, hj, e⟩ := List.mem_iff_getElem.1 hv
      have := hs (c.length - 1 - j) (by omega)
      rw [show (c.length : Int) - 1 - ((c.length - 1 - j : Nat) : Int) = (j : Int) by omega] at this
      have e2 : rd c (j : Int) = v := by rw [← e]; simp [rd, List.getD, hj]
      rwa [e2] at this, hm v⟩
    have hdw : ∀ v ∈ d, W64 v := fun v hv => hc v (hm v hv)
    have e1 : clause_Normal.f c = some (normN c) := by unfold clause_Normal.f; rw [if_pos (by omega)]
    have e2 : clause_Normal.f d = some (normN c) := by
      unfold clause_Normal.f
      rw [if_pos (by omega), normN_eq, normN_eq, rowN_same c d hsame]
    have hlen : (normN c).1.length ≤ 9223372036854775807 := by
      rw [normN_eq]
      have hr : (rowN c).length ≤ c.length := by
        unfold rowN Lib.compactUpTo
        rw [List.length_map]
        refine Nat.le_trans (List.length_filter_le _ _) ?_
        rw [List.length_range]
        unfold sortN
        rw [List.length_mergeSort]
        exact List.length_filter_le _ _
      unfold endN
      split
      · exact Nat.zero_le _
      · show (rowN c).length ≤ _; omega
    have h2 := same_is (normN c).1 (normN c).1 hlen
    rw [decide_eq_true rfl] at h2
    refine Ev.step (f := fun k => crossroadslaw4_same.f k (normN c).1 (normN c).1) (fun k => ?_) h2
    rw [crossroadslaw4_ClauseOrders.l0, if_neg (drop_end hi), e1, Option.bind_some, e2, Option.bind_some, if_pos (by simp)]
    cases crossroadslaw4_same.f k (normN c).1 (normN c).1 <;> rfl
  | cons v s ih =>
    intro i d hi hile hd hm hs
    obtain ⟨hil, hv, hs'⟩ := rd_cons hi
    have hw1 : wrap64 turn = turn := by unfold wrap64; omega
    have hw2 : wrap64 ((i : Int) + turn) = (i : Int) + turn := by unfold wrap64; omega
    have hw3 : wrap64 ((c.length : Int) - 1) = (c.length : Int) - 1 := by unfold wrap64; omega
    have hw4 : wrap64 ((c.length : Int) - 1 - i) = (c.length : Int) - 1 - i := by unfold wrap64; omega
    have hm0 : 0 ≤ Int.tmod ((i : Int) + turn) (c.length : Int) := Int.tmod_nonneg _ (by omega)
    have hm1 : Int.tmod ((i : Int) + turn) (c.length : Int) < (c.length : Int) := Int.tmod_lt_of_pos _ (by omega)
    refine Ev.step (fun k => ?_) (ih (i + 1) (d ++ [rd c (Int.tmod ((i : Int) + turn) (c.length : Int)), rd c ((c.length : Int) - 1 - i)]) hs' (by omega) (by rw [List.length_append]; simp; omega) (fun x hx => ?_) (fun j hj => ?_))
    · rw [crossroadslaw4_ClauseOrders.l0, if_pos (show (i : Int) < (c.length : Int) by omega), if_neg (show ¬ (c.length : Int) = 0 by omega), hw1, hw2, if_pos hm0, if_pos hm1, hw3, hw4, if_pos (show 0 ≤ (c.length : Int) - 1 - i by omega), if_pos (show (c.length : Int) - 1 - i < (c.length : Int) by omega), Option.bind_some, if_pos (by rw [hd]; simp; omega), wrap_succ hil (by omega)]
    · rcases List.mem_append.1 hx with h | h
      · exact hm x h
      · rcases List.mem_cons.1 h with h | h
        · rw [h]; exact rd_lt c _ hm0 hm1
        · rw [List.mem_singleton.1 h]; exact rd_lt c _ (by omega) (by omega)
    · by_cases he : j = i
      · subst he; exact List.mem_append_right _ (by simp)
      · exact List.mem_append_left _ (hs j (by omega))
theorem ClauseOrders : crossroadslaw4_ClauseOrders.Pure := by
  intro c turn hf ht
  have hc : ∀ v ∈ c, W64 v := fun v hv => wf64 (hf.2.2 v hv)
  have ht' : 0 ≤ turn ∧ turn ≤ 255 := by
    simp [Lit.wf, IntKind.min, IntKind.max, IntKind.bits, IntKind.signed] at ht
    omega
  obtain ⟨K1, hA⟩ := awake_is
  suffices h : Ev (fun k => if (c.length : Int) = 0 then (crossroadslaw4_ClauseOrders.j0 k c turn true) else (crossroadslaw4_ClauseOrders.j0 k c turn (decide ((c.length : Int) > 200)))) true by
    obtain ⟨K2, hK⟩ := h
    refine ⟨max K1 K2, ?_⟩
    unfold crossroadslaw4_ClauseOrders.f
    rw [show crossroadslaw4_awake.f (max K1 K2) = some true from hA _ (Nat.le_max_left _ _), Option.bind_some, if_pos rfl]
    exact hK _ (Nat.le_max_right _ _)
  by_cases h0 : (c.length : Int) = 0
  · refine Ev.step (f := fun _ => some true) (fun k => ?_) (Ev.now true)
    rw [if_pos h0, crossroadslaw4_ClauseOrders.j0, if_pos rfl]
  · by_cases h1 : (c.length : Int) > 200
    · refine Ev.step (f := fun _ => some true) (fun k => ?_) (Ev.now true)
      rw [if_neg h0, decide_eq_true h1, crossroadslaw4_ClauseOrders.j0, if_pos rfl]
    · refine Ev.step (f := fun k => crossroadslaw4_ClauseOrders.l0 k c turn [] ((0 : Nat) : Int)) (fun k => ?_) (orders_l0 c turn hc (by omega) (by omega) ht' c 0 [] rfl (Nat.zero_le _) rfl (fun v hv => absurd hv (by simp)) (fun j hj => absurd hj (by omega)))
      rw [if_neg h0, decide_eq_false h1, crossroadslaw4_ClauseOrders.j0, if_neg (by decide)]; rfl
end Go.Proofs.Ytlfghalebkgclaa.Pure
