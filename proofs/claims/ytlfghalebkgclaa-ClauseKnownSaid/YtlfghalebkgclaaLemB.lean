/- Plain lemmas for the statements of layer 4: what holds, what the document's example says. -/
import Derived.Test.YtlfghalebkgclaaLemA
namespace Go.Proofs.Ytlfghalebkgclaa.Lem
open Go.RowKit Go.Proofs.Ytlfghalebkgclaa.G Go.Proofs.Ytlfghalebkgclaa.P Go.Proofs.YtlfghalebkgclaaW.PrintWords Go.Proofs.YtlfghalebkgclaaW.PrintLast Go.Proofs.YtlfghalebkgclaaW.PrintMore
/-- Does a literal hold? -/
def holdsB (m : List Bool) (v : Int) : Bool :=
  if v = -9223372036854775808 ∨ v = 0 then false else (decide (num0 v ≤ m.length) && m.getD (num0 v - 1).toNat false) == decide (v > 0)
def evalB (m : List Bool) (f : List (List Int)) : Bool := f.all fun c => c.any (holdsB m)
theorem mx_num {v : Int} (h : W64 v) (h0 : v ≠ -9223372036854775808) : mx v (wrap64 (-v)) = num0 v := by
  unfold W64 at h
  have : wrap64 (-v) = -v := by unfold wrap64; omega
  rw [this]
  unfold mx num0
  split <;> split <;> omega
theorem num_num0 {v : Int} (h : W64 v) : num v = if v = -9223372036854775808 then 0 else num0 v := by
  rw [num_val h]; rfl
theorem rholds_is {v : Int} {m : List Bool} (h : W64 v) (hm : m.length ≤ 140737488351232) : crossroadsref1_Holds.f v m = some (holdsB m v) := by
  unfold crossroadsref1_Holds.f holdsB
  by_cases h0 : v = -9223372036854775808
  · subst h0
    rw [if_pos (by unfold mx wrap64; omega), if_pos (Or.inl rfl)]
  · rw [mx_num h h0]
    unfold W64 at h
    by_cases h1 : v = 0
    · subst h1
      rw [if_pos (show num0 0 < 1 by decide), if_pos (Or.inr rfl)]
    · have hn : 1 ≤ num0 v := by unfold num0; split <;> omega
      rw [if_neg (show ¬ num0 v < 1 by omega), if_neg (show ¬ (v = -9223372036854775808 ∨ v = 0) by omega)]
      by_cases h2 : num0 v ≤ (m.length : Int)
      · have hw : wrap64 (num0 v - 1) = num0 v - 1 := by unfold wrap64; omega
        rw [if_pos h2, hw, if_pos (by omega), if_pos (by omega), decide_eq_true h2, Bool.true_and]
        rfl
      · rw [if_neg h2, decide_eq_false h2, Bool.false_and]
theorem holds_is {v : Int} {m : List Bool} (h : W64 v) (hm : m.length ≤ 140737488351232) : Q.clause_holds.f v m = some (holdsB m v) := by
  unfold Q.clause_holds.f Q.clause_Number.f holdsB
  by_cases h0 : v = -9223372036854775808
  · rw [if_pos h0, Option.bind_some, if_neg (show ¬ (0 : Int) > 0 by omega), if_pos (Or.inl h0)]
  · rw [if_neg h0, mx_num h h0, Option.bind_some]
    unfold W64 at h
    by_cases h1 : v = 0
    · subst h1
      rw [if_neg (show ¬ num0 0 > 0 by decide), if_pos (Or.inr rfl)]
    · have hn : 1 ≤ num0 v := by unfold num0; split <;> omega
      rw [if_pos (show num0 v > 0 by omega), if_neg (show ¬ (v = -9223372036854775808 ∨ v = 0) by omega)]
      by_cases h2 : num0 v ≤ (m.length : Int)
      · have hw : wrap64 (num0 v - 1) = num0 v - 1 := by unfold wrap64; omega
        rw [if_pos h2, hw, if_pos (by omega), if_pos (by omega), decide_eq_true h2, Bool.true_and]
        rfl
      · rw [if_neg h2, decide_eq_false h2, Bool.false_and]
theorem eval_is {f : List (List Int)} {m : List Bool} (hf : ∀ c ∈ f, ∀ v ∈ c, W64 v) (hm : m.length ≤ 140737488351232) : clause_Eval.f f m = some (evalB m f) := by
  unfold clause_Eval.f evalB
  rw [if_pos]
  · congr 1
    rw [Bool.eq_iff_iff, List.all_eq_true, List.all_eq_true]
    have e : ∀ c ∈ f, c.any (holdsO m) = c.any (holdsB m) := fun c hc => by
      rw [Bool.eq_iff_iff, List.any_eq_true, List.any_eq_true]
      have e2 : ∀ v ∈ c, holdsO m v = holdsB m v := fun v hv => by unfold holdsO; rw [holds_is (hf c hc v hv) hm]; rfl
      exact ⟨fun ⟨v, hv, h⟩ => ⟨v, hv, (e2 v hv).symm.trans h⟩, fun ⟨v, hv, h⟩ => ⟨v, hv, (e2 v hv).trans h⟩⟩
    exact ⟨fun h c hc => (e c hc).symm.trans (h c hc), fun h c hc => (e c hc).trans (h c hc)⟩
  · rw [List.all_eq_true]
    intro c hc
    rw [List.all_eq_true]
    intro v hv
    rw [holds_is (hf c hc v hv) hm]; rfl
theorem reval_l1 {f : List (List Int)} {m : List Bool} (hf : Came f) (hm : m.length ≤ 140737488351232) (i : Nat) (hi : i < f.length) (b : Bool) (c : List Int) (hci : rd_L1 f (i : Int) = c) (hc : c ∈ f) (hr : Ev (fun k => crossroadsref1_Eval.l0 k f m ((i + 1 : Nat) : Int)) b) :
    ∀ (s : List Int) (j : Nat) (ok : Bool), c.drop j = s → Ev (fun k => crossroadsref1_Eval.l1 k f m i ok (j : Int)) ((ok || s.any (holdsB m)) && b) := by
  intro s
  induction s with
  | nil =>
    intro j ok hj
    rw [List.any_nil, Bool.or_false]
    cases ok with
    | true =>
      rw [Bool.true_and]
      refine Ev.step (fun k => ?_) hr
      rw [crossroadsref1_Eval.l1, if_pos (by omega), if_pos (by omega), hci, if_neg (drop_end hj), if_pos rfl, wrap_succ hi hf.len]
    | false =>
      rw [Bool.false_and]
      refine Ev.step (fun k => ?_) (Ev.now false)
      rw [crossroadsref1_Eval.l1, if_pos (by omega), if_pos (by omega), hci, if_neg (drop_end hj), if_neg (by decide)]
  | cons v s ih =>
    intro j ok hj
    obtain ⟨hjl, hv, hs⟩ := rd_cons hj
    have hlen := (hf.rows c hc).1
    have hvm : v ∈ c := by rw [← List.take_append_drop j c, hj]; simp
    cases ok with
    | true =>
      rw [Bool.true_or]
      have := ih (j + 1) true hs
      rw [Bool.true_or] at this
      refine Ev.step (fun k => ?_) this
      rw [crossroadsref1_Eval.l1, if_pos (by omega), if_pos (by omega), hci, if_pos (by omega), if_pos rfl, wrap_succ hjl hlen]
    | false =>
      have := ih (j + 1) (holdsB m v) hs
      rw [List.any_cons, Bool.false_or]
      refine Ev.step (fun k => ?_) this
      rw [crossroadsref1_Eval.l1, if_pos (by omega), if_pos (by omega), hci, if_pos (by omega), if_neg (by decide), if_pos (by omega), hv, rholds_is ((hf.rows c hc).2 v hvm) hm, Option.bind_some, wrap_succ hjl hlen]
theorem reval_l0 {f : List (List Int)} {m : List Bool} (hf : Came f) (hm : m.length ≤ 140737488351232) : ∀ (s : List (List Int)) (i : Nat), f.drop i = s → Ev (fun k => crossroadsref1_Eval.l0 k f m (i : Int)) (evalB m s) := by
  intro s
  induction s with
  | nil =>
    intro i hi
    refine Ev.step (fun k => ?_) (Ev.now true)
    rw [crossroadsref1_Eval.l0, if_neg (drop_end hi)]
  | cons c s ih =>
    intro i hi
    obtain ⟨hil, hc, hs⟩ := rdL_cons hi
    have hcm : c ∈ f := by rw [← List.take_append_drop i f, hi]; simp
    have h := reval_l1 hf hm i hil _ c hc hcm (ih (i + 1) hs) c 0 false rfl
    rw [Bool.false_or] at h
    refine Ev.step (f := fun k => crossroadsref1_Eval.l1 k f m i false ((0 : Nat) : Int)) (fun k => ?_) h
    rw [crossroadsref1_Eval.l0, if_pos (by omega)]; rfl
theorem reval_is {f : List (List Int)} {m : List Bool} (hf : Came f) (hm : m.length ≤ 140737488351232) : Ev (fun k => crossroadsref1_Eval.f k f m) (evalB m f) := reval_l0 hf hm f 0 rfl
theorem may_eq (n : Int) (f : List (List Int)) (hf : ∀ c ∈ f, ∀ v ∈ c, W64 v) : mayF n f = mayB n f := by
  unfold mayF mayB
  rw [Bool.and_assoc]
  by_cases h1 : n ≤ 65536
  · congr 2
    rw [Bool.eq_iff_iff, List.all_eq_true, List.all_eq_true]
    have e : ∀ c ∈ f, (c.all fun v => okV n v) = c.all (litOk n) := fun c hc => by
      rw [Bool.eq_iff_iff, List.all_eq_true, List.all_eq_true]
      have e2 : ∀ v ∈ c, okV n v = litOk n v := fun v hv => by
        have hw := hf c hc v hv
        unfold okV litOk
        rw [num_num0 hw]
        by_cases h0 : v = -9223372036854775808
        · subst h0
          rw [if_pos rfl, decide_eq_false (by decide), Bool.false_and, decide_eq_false (show ¬ num0 (-9223372036854775808) ≤ n by unfold num0; rw [if_pos (by decide)]; omega), Bool.and_false]
        · rw [if_neg h0]
      exact ⟨fun h v hv => (e2 v hv).symm.trans (h v hv), fun h v hv => (e2 v hv).trans (h v hv)⟩
    exact ⟨fun h c hc => (e c hc).symm.trans (h c hc), fun h c hc => (e c hc).trans (h c hc)⟩
  · rw [decide_eq_false h1, Bool.false_and, Bool.false_and]
theorem normal_is {c : List Int} (hc : ∀ v ∈ c, W64 v) (hl : c.length < 17592186044416) : clause_Normal.f c = some (normR c) := by
  unfold clause_Normal.f
  rw [if_pos hl, norm_eq c hc]
theorem normal_w {c : List Int} (hc : (c.all fun v => decide (-9223372036854775808 ≤ v) && decide (v ≤ 9223372036854775807)) = true) (hl : c.length < 17592186044416) (r : List Int × Bool) (hr : normR c = r) : clause_Normal.f c = some r := by
  rw [← hr]
  refine normal_is (fun v hv => ?_) hl
  have h := List.all_eq_true.1 hc v hv
  rw [Bool.and_eq_true] at h
  exact ⟨of_decide_eq_true h.1, of_decide_eq_true h.2⟩
theorem awake_is : Ev (fun k => crossroadslaw4_awake.f k) true := by
  have h1 : clause_Normal.f [3, (-1), 3] = some ([-1, 3], false) := normal_w (by decide) (by decide) _ (by kernel_rfl)
  have h2 := same_is [-1, 3] [(-1), 3] (by decide)
  have h3 : clause_May.f 3 [[1, (-3)]] = some true := by
    unfold clause_May.f
    rw [may_eq 3 _ (fun c hc v hv => by
      obtain rfl := List.mem_singleton.1 hc
      simp at hv
      unfold W64; omega)]
    exact congrArg some (by decide)
  have h4 : clause_Eval.f [[1, (-2)]] [false, false] = some true := by
    rw [eval_is (fun c hc v hv => by
      obtain rfl := List.mem_singleton.1 hc
      simp at hv
      unfold W64; omega) (by decide)]
    exact congrArg some (by decide)
  rw [decide_eq_true rfl] at h2
  obtain ⟨K, hK⟩ := h2
  refine ⟨K, fun k hk => ?_⟩
  have hK' : crossroadslaw4_same.f k [-1, 3] [(-1), 3] = some true := hK k hk
  show crossroadslaw4_awake.f k = some true
  unfold crossroadslaw4_awake.f
  rw [h1, Option.bind_some, if_neg (by decide), show crossroadslaw4_same.f k ([-1, 3], false).fst [(-1), 3] = some true from hK', Option.bind_some, if_pos rfl, h3, Option.bind_some, if_pos rfl, h4, Option.bind_some]
end Go.Proofs.Ytlfghalebkgclaa.Lem
