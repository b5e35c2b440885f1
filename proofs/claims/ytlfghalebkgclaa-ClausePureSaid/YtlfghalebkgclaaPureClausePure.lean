/- The plain law of ClausePure: made to hold, what stands one way alone spoils no clause. -/
import Derived.Test.YtlfghalebkgclaaPx6
import Derived.Test.YtlfghalebkgclaaLemB
namespace Go.Proofs.Ytlfghalebkgclaa.Pure
open Go.RowKit Go.Proofs.Ytlfghalebkgclaa.G Go.Proofs.Ytlfghalebkgclaa.P Go.Proofs.Ytlfghalebkgclaa.Lem Go.Proofs.YtlfghalebkgclaaW.PrintWords Go.Proofs.YtlfghalebkgclaaW.PrintLast Go.Proofs.YtlfghalebkgclaaW.PrintMore
theorem pure_mem (f : List (List Int)) : ∀ (k : Nat) (p : Int), p ∈ pureTo f k → 1 ≤ num0 p ∧ num0 p ≤ k ∧ -p ∉ f.flatten
  | 0, p, h => absurd h (by simp [pureTo])
  | k + 1, p, h => by
    unfold pureTo at h
    rcases List.mem_append.1 h with h | h
    · have := pure_mem f k p h
      exact ⟨this.1, by omega, this.2.2⟩
    · by_cases h1 : occ f (k + 1) = occ f (-(k + 1))
      · rw [if_pos h1] at h; exact absurd h (by simp)
      · rw [if_neg h1] at h
        by_cases h2 : occ f (k + 1) = true
        · rw [if_pos h2] at h
          obtain rfl := List.mem_singleton.1 h
          refine ⟨by unfold num0; split <;> omega, by unfold num0; split <;> omega, fun hm => h1 ?_⟩
          rw [h2]
          exact (decide_eq_true hm).symm
        · rw [if_neg h2] at h
          obtain rfl := List.mem_singleton.1 h
          refine ⟨by unfold num0; split <;> omega, by unfold num0; split <;> omega, fun hm => h2 ?_⟩
          rw [Int.neg_neg] at hm
          exact decide_eq_true hm
def putP (x : List Bool) (p : Int) : List Bool := x.set (num0 p - 1).toNat (decide (p > 0))
theorem putP_length (P : List Int) : ∀ x : List Bool, (P.foldl putP x).length = x.length := by
  induction P with
  | nil => intro x; rfl
  | cons p P ih => intro x; rw [List.foldl_cons, ih]; unfold putP; rw [List.length_set]
theorem putP_get (P : List Int) (idx : Nat) (b : Bool) : ∀ x : List Bool, idx < x.length → (∀ p ∈ P, (num0 p - 1).toNat = idx → decide (p > 0) = b) → (x.getD idx false = b ∨ ∃ p ∈ P, (num0 p - 1).toNat = idx) → (P.foldl putP x).getD idx false = b := by
  induction P with
  | nil =>
    intro x _ _ h
    rcases h with h | ⟨p, hp, _⟩
    · exact h
    · exact absurd hp (by simp)
  | cons p P ih =>
    intro x hx hc h
    rw [List.foldl_cons]
    refine ih (putP x p) (by unfold putP; rw [List.length_set]; exact hx) (fun q hq => hc q (List.mem_cons_of_mem _ hq)) ?_
    by_cases he : (num0 p - 1).toNat = idx
    · left
      unfold putP
      rw [he, List.getD_eq_getElem?_getD, List.getElem?_set_self hx]
      exact hc p List.mem_cons_self he
    · rcases h with h | ⟨q, hq, hqe⟩
      · left
        unfold putP
        rw [List.getD_eq_getElem?_getD, List.getElem?_set_ne he, ← List.getD_eq_getElem?_getD]
        exact h
      · rcases List.mem_cons.1 hq with e | e
        · subst e; exact absurd hqe he
        · exact .inr ⟨q, e, hqe⟩
theorem keeps_true (f : List (List Int)) (m : List Bool) (N : Nat) (hN : m.length = N) (hm : ∀ c ∈ f, ∀ v ∈ c, litOk N v = true) (c : List Int) (hc : c ∈ f) (h : c.any (holdsB m) = true) : c.any (holdsB ((pureTo f N).foldl putP m)) = true := by
  obtain ⟨v, hv, hh⟩ := List.any_eq_true.1 h
  refine List.any_eq_true.2 ⟨v, hv, ?_⟩
  have hok := hm c hc v hv
  unfold litOk at hok
  rw [Bool.and_eq_true] at hok
  have h1 := of_decide_eq_true hok.1
  have h2 := of_decide_eq_true hok.2
  have hvf : v ∈ f.flatten := List.mem_flatten.2 ⟨c, hc, hv⟩
  unfold holdsB at hh ⊢
  by_cases h0 : v = -9223372036854775808 ∨ v = 0
  · rw [if_pos h0] at hh; cases hh
  · rw [if_neg h0] at hh ⊢
    rw [putP_length]
    rw [decide_eq_true (show num0 v ≤ (m.length : Int) by omega), Bool.true_and] at hh ⊢
    have hh := beq_iff_eq.1 hh
    refine beq_iff_eq.2 (putP_get _ _ _ m (by omega) (fun p hp he => ?_) (.inl hh))
    have hp' := pure_mem f N p hp
    have : p = v ∨ p = -v := by
      have h3 : num0 p = num0 v := by omega
      unfold num0 at h3
      split at h3 <;> split at h3 <;> omega
    rcases this with e | e
    · rw [e]
    · subst e
      rw [Int.neg_neg] at hp'
      exact absurd hvf hp'.2.2
theorem pure_l1 (f : List (List Int)) (m x : List Bool) (hf : Came f) (hm : m.length ≤ 140737488351232) (hx : x.length ≤ 140737488351232) (hk : ∀ c ∈ f, c.any (holdsB m) = true → c.any (holdsB x) = true) :
    ∀ (s : List (List Int)) (i : Nat), f.drop i = s → Ev (fun k => crossroadslaw4_ClausePure.l1 k f m x (i : Int)) true := by
  intro s
  induction s with
  | nil =>
    intro i hi
    refine Ev.step (fun k => ?_) (Ev.now true)
    rw [crossroadslaw4_ClausePure.l1, if_neg (drop_end hi)]
  | cons c s ih =>
    intro i hi
    obtain ⟨hil, hc, hs⟩ := rdL_cons hi
    have hcm : c ∈ f := by rw [← List.take_append_drop i f, hi]; simp
    have hone : ((f.take (i + 1)).drop i) = [c] := by
      rw [List.drop_take, hi, show i + 1 - i = 1 by omega]; rfl
    have hcame : Came [c] := ⟨by simp, fun d hd => by rw [List.mem_singleton.1 hd]; exact hf.rows c hcm⟩
    obtain ⟨K1, h1⟩ := reval_is hcame hm
    obtain ⟨K2, h2⟩ := reval_is hcame hx
    obtain ⟨K3, h3⟩ := ih (i + 1) hs
    refine ⟨K1 + K2 + K3 + 1, fun k hk' => ?_⟩
    obtain ⟨k', rfl⟩ : ∃ k', k = k' + 1 := ⟨k - 1, by omega⟩
    have h1' : crossroadsref1_Eval.f k' [c] m = some (evalB m [c]) := h1 k' (by omega)
    have h2' : crossroadsref1_Eval.f k' [c] x = some (evalB x [c]) := h2 k' (by omega)
    have h3' : crossroadslaw4_ClausePure.l1 k' f m x ((i + 1 : Nat) : Int) = some true := h3 k' (by omega)
    have e1 : ∀ y, evalB y [c] = c.any (holdsB y) := fun y => by unfold evalB; rw [List.all_cons, List.all_nil, Bool.and_true]
    show crossroadslaw4_ClausePure.l1 (k' + 1) f m x (i : Int) = some true
    have hl := hf.len
    rw [crossroadslaw4_ClausePure.l1, wrap_succ hil hf.len, if_pos (show (i : Int) < (f.length : Int) by omega), if_pos (show 0 ≤ (i : Int) by omega), if_pos (show (i : Int) ≤ ((i + 1 : Nat) : Int) by omega), if_pos (show ((i + 1 : Nat) : Int) ≤ (f.length : Int) by omega), Int.toNat_natCast, Int.toNat_natCast, hone, h1', Option.bind_some, e1]
    cases hh : c.any (holdsB m) with
    | true =>
      rw [if_pos rfl, h2', Option.bind_some, e1, hk c hcm hh, if_pos rfl]
      exact h3'
    | false =>
      rw [if_neg (by decide)]
      exact h3'
theorem pure_l0 (f : List (List Int)) (m : List Bool) (N : Nat) (P : List Int) (hN : N ≤ 65536) (hP : ∀ p ∈ P, 1 ≤ num0 p ∧ num0 p ≤ N) (hPl : P.length ≤ 65536) (b : Bool) (hr : ∀ x, x = P.foldl putP m → Ev (fun k => crossroadslaw4_ClausePure.l1 k f m x 0) b) (hm : m.length = N) :
    ∀ (s : List Int) (i : Nat) (x : List Bool), P.drop i = s → x.length = N → s.foldl putP x = P.foldl putP m → Ev (fun k => crossroadslaw4_ClausePure.l0 k f m N P x (i : Int)) b := by
  intro s
  induction s with
  | nil =>
    intro i x hi hx hfold
    refine Ev.step (fun k => ?_) (hr x hfold)
    rw [crossroadslaw4_ClausePure.l0, if_neg (drop_end hi)]
  | cons p s ih =>
    intro i x hi hx hfold
    obtain ⟨hil, hp, hs⟩ := rd_cons hi
    have hpm : p ∈ P := by rw [← List.take_append_drop i P, hi]; simp
    have hpp := hP p hpm
    have hw : W64 p := by
      unfold W64
      have := hpp
      unfold num0 at this
      split at this <;> omega
    have hpm0 : p ≠ -9223372036854775808 := by
      rintro rfl
      unfold num0 at hpp
      rw [if_pos (by decide)] at hpp
      omega
    have hmx := mx_num hw hpm0
    have hw2 : wrap64 (num0 p - 1) = num0 p - 1 := by unfold wrap64; omega
    refine Ev.step (fun k => ?_) (ih (i + 1) (putP x p) hs (by unfold putP; rw [List.length_set]; exact hx) hfold)
    rw [crossroadslaw4_ClausePure.l0, if_pos (show (i : Int) < (P.length : Int) by omega), if_pos (show 0 ≤ (i : Int) by omega), hp, hmx, hw2, if_neg (show ¬ num0 p < 1 by omega), if_neg (show ¬ num0 p > (N : Int) by omega), if_pos (show 0 ≤ num0 p - 1 by omega), if_pos (show num0 p - 1 < (x.length : Int) by omega), wrap_succ hil (by omega)]
    rfl
theorem ClausePure : crossroadslaw4_ClausePure.Pure := by
  intro a f m ha hf hm0
  have hm : m.length ≤ 140737488351232 := by have := hm0.1; omega
  have hc : Came f := ⟨hf.2.1, fun c hc => ⟨(hf.2.2 c hc).2.1, fun v hv => wf64 ((hf.2.2 c hc).2.2 v hv)⟩⟩
  have hW : ∀ c ∈ f, ∀ v ∈ c, W64 v := fun c hcm => (hc.rows c hcm).2
  have hwf : (f.all fun c => c.all fun v => (Lit.int .i64 v).wf) = true := by
    rw [List.all_eq_true]
    intro c hcm
    rw [List.all_eq_true]
    exact fun v hv => (hf.2.2 c hcm).2.2 v hv
  have ha' : 0 ≤ a ∧ a ≤ 255 := by
    simp [Lit.wf, IntKind.min, IntKind.max, IntKind.bits, IntKind.signed] at ha
    omega
  have hwa : wrap64 a = a := by unfold wrap64; omega
  obtain ⟨N, hN, hN2⟩ : ∃ N : Nat, Int.tmod (wrap64 a) 20 = (N : Int) ∧ N < 20 := by
    rw [hwa]
    have h1 : 0 ≤ Int.tmod a 20 := Int.tmod_nonneg _ ha'.1
    have h2 : Int.tmod a 20 < 20 := Int.tmod_lt_of_pos _ (by omega)
    exact ⟨(Int.tmod a 20).toNat, by omega, by omega⟩
  obtain ⟨K1, hA⟩ := awake_is
  obtain ⟨sm, hS⟩ := small_some hf.2.1 500
  obtain ⟨K2, hS⟩ := hS
  obtain ⟨K3, hM⟩ := rmay_is (N : Int) f hc
  have htrue : Ev (fun k => crossroadslaw4_ClausePure.j0 k f m (N : Int) true) true := by
    refine Ev.step (f := fun _ => some true) (fun k => ?_) (Ev.now true)
    rw [crossroadslaw4_ClausePure.j0, if_pos rfl]
  have hmain : mayB (N : Int) f = true → Ev (fun k => crossroadslaw4_ClausePure.j0 k f m (N : Int) ((m.length : Int) != (N : Int))) true := by
    intro hmay
    by_cases hl : m.length = N
    · have hok : ∀ c ∈ f, ∀ v ∈ c, litOk (N : Int) v = true := by
        unfold mayB at hmay
        rw [Bool.and_eq_true, Bool.and_eq_true] at hmay
        exact fun c hcm v hv => List.all_eq_true.1 (List.all_eq_true.1 hmay.2.2 c hcm) v hv
      have hP : pureF (N : Int) f = pureTo f N := by
        unfold pureF
        rw [may_eq _ f hW, if_pos hmay, Int.toNat_natCast]
      have hpl := pureTo_length f N
      have h := pure_l0 f m N (pureTo f N) (by omega) (fun p hp => ⟨(pure_mem f N p hp).1, (pure_mem f N p hp).2.1⟩) (by omega) true (fun x hx => by
        subst hx
        exact pure_l1 f m _ hc hm (by rw [putP_length]; exact hm) (fun c hcm hh => keeps_true f m N hl hok c hcm hh) f 0 rfl) hl (pureTo f N) 0 m rfl hl rfl
      refine Ev.step (fun k => ?_) h
      rw [crossroadslaw4_ClausePure.j0, if_neg (by simp [hl]), show clause_Pure.f (N : Int) f = some (pureF (N : Int) f) from by unfold clause_Pure.f; rw [if_pos hwf], Option.bind_some, Option.bind_some, if_pos (by rw [List.length_nil]; omega), hP]
      rfl
    · rw [show ((m.length : Int) != (N : Int)) = true from bne_iff_ne.2 (by omega)]
      exact htrue
  obtain ⟨K4, h4⟩ := htrue
  cases hb : mayB (N : Int) f with
  | true =>
    obtain ⟨K5, h5⟩ := hmain hb
    refine ⟨K1 + K2 + K3 + K4 + K5, ?_⟩
    unfold crossroadslaw4_ClausePure.f
    rw [show crossroadslaw4_awake.f (K1 + K2 + K3 + K4 + K5) = some true from hA _ (by omega), Option.bind_some, if_pos rfl, show crossroadslaw4_Small.f (K1 + K2 + K3 + K4 + K5) f 500 = some sm from hS _ (by omega), Option.bind_some, hN]
    cases sm with
    | true =>
      rw [if_pos rfl, show crossroadsref1_FormulaMay.f (K1 + K2 + K3 + K4 + K5) (N : Int) f = some true from (hM _ (by omega)).trans (by rw [hb]), Option.bind_some, if_pos rfl]
      exact h5 _ (by omega)
    | false =>
      rw [if_neg (by decide)]
      exact h4 _ (by omega)
  | false =>
    refine ⟨K1 + K2 + K3 + K4, ?_⟩
    unfold crossroadslaw4_ClausePure.f
    rw [show crossroadslaw4_awake.f (K1 + K2 + K3 + K4) = some true from hA _ (by omega), Option.bind_some, if_pos rfl, show crossroadslaw4_Small.f (K1 + K2 + K3 + K4) f 500 = some sm from hS _ (by omega), Option.bind_some, hN]
    cases sm with
    | true =>
      rw [if_pos rfl, show crossroadsref1_FormulaMay.f (K1 + K2 + K3 + K4) (N : Int) f = some false from (hM _ (by omega)).trans (by rw [hb]), Option.bind_some, if_neg (by decide)]
      exact h4 _ (by omega)
    | false =>
      rw [if_neg (by decide)]
      exact h4 _ (by omega)
end Go.Proofs.Ytlfghalebkgclaa.Pure
