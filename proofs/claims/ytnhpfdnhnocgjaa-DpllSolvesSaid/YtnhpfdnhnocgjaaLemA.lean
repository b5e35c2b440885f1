/- Joined by a program of this session out of: LemA. -/
import Derived.Test.YtnhpfdnhnocgjaaPx4
import Derived.Test.YtnhpfdnhnocgjaaNormEq
/- Plain lemmas for the statements of layer 4: what the printed functions answer, in plain words on lists. -/
namespace Go.Proofs.Ytnhpfdnhnocgjaa.Lem
open Go.RowKit Go.Proofs.Ytnhpfdnhnocgjaa.G Go.Proofs.Ytnhpfdnhnocgjaa.P Go.Proofs.YtnhpfdnhnocgjaaW.PrintWords Go.Proofs.YtnhpfdnhnocgjaaW.PrintLast Go.Proofs.YtnhpfdnhnocgjaaW.PrintMore
/-! ### lists by index -/
theorem rd_cons {l s : List Int} {i : Nat} {x : Int} (h : l.drop i = x :: s) : i < l.length ∧ rd l (i : Int) = x ∧ l.drop (i + 1) = s := by
  have hi : i < l.length := by
    rcases Nat.lt_or_ge i l.length with h1 | h1
    · exact h1
    · rw [List.drop_eq_nil_of_le h1] at h; cases h
  have e := List.drop_eq_getElem_cons hi
  rw [h] at e
  injection e with e1 e2
  exact ⟨hi, by simp [rd, List.getD, hi, e1], e2.symm⟩
theorem rdL_cons {l s : List (List Int)} {i : Nat} {x : List Int} (h : l.drop i = x :: s) : i < l.length ∧ rd_L1 l (i : Int) = x ∧ l.drop (i + 1) = s := by
  have hi : i < l.length := by
    rcases Nat.lt_or_ge i l.length with h1 | h1
    · exact h1
    · rw [List.drop_eq_nil_of_le h1] at h; cases h
  have e := List.drop_eq_getElem_cons hi
  rw [h] at e
  injection e with e1 e2
  exact ⟨hi, by simp [rd_L1, List.getD, hi, e1], e2.symm⟩
theorem drop_end {α : Type} {l : List α} {i : Nat} (h : l.drop i = []) : ¬ ((i : Int) < (l.length : Int)) := by
  have := congrArg List.length h
  rw [List.length_drop, List.length_nil] at this
  omega
theorem wrap_succ {i : Nat} {n : Nat} (h : i < n) (hn : n ≤ 9223372036854775807) : wrap64 ((i : Int) + 1) = ((i + 1 : Nat) : Int) := by
  unfold wrap64; omega
theorem wf64 {n : Int} (h : (Lit.int .i64 n).wf = true) : -9223372036854775808 ≤ n ∧ n ≤ 9223372036854775807 := by
  simp [Lit.wf, IntKind.min, IntKind.max, IntKind.bits, IntKind.signed] at h
  omega

/-! ### formulas -/
def num0 (v : Int) : Int := if v < 0 then -v else v
def litOk (n v : Int) : Bool := decide (1 ≤ num0 v) && decide (num0 v ≤ n)
def mayB (n : Int) (f : List (List Int)) : Bool := decide (0 ≤ n) && (decide (n ≤ 65536) && f.all fun c => c.all (litOk n))
/-- A formula as it can come in. -/
structure Came (f : List (List Int)) : Prop where
  len : f.length ≤ 9223372036854775807
  rows : ∀ c ∈ f, c.length ≤ 9223372036854775807 ∧ ∀ v ∈ c, W64 v
theorem rmay_l1 {n : Int} {f : List (List Int)} (hn0 : 0 ≤ n) (hn : n ≤ 65536) (hf : Came f) (i : Nat) (b : Bool) (c : List Int) (hi : i < f.length) (hci : rd_L1 f (i : Int) = c) (hc : c ∈ f)
    (hr : c.all (litOk n) = true → Ev (fun k => crossroadsref1_FormulaMay.l0 k n f ((i + 1 : Nat) : Int)) b) (hb : c.all (litOk n) = false → b = false) :
    ∀ (s : List Int) (j : Nat), c.drop j = s → (c.take j).all (litOk n) = true → Ev (fun k => crossroadsref1_FormulaMay.l1 k n f i (j : Int)) b := by
  intro s
  induction s with
  | nil =>
    intro j hj ht
    have hall : c.all (litOk n) = true := by
      rw [← List.take_append_drop j c, hj, List.append_nil]; exact ht
    refine Ev.step (fun k => ?_) (hr hall)
    rw [crossroadsref1_FormulaMay.l1, if_pos (by omega), if_pos (by omega), hci, if_neg (drop_end hj), wrap_succ hi hf.len]
  | cons v s ih =>
    intro j hj ht
    obtain ⟨hjl, hv, hs⟩ := rd_cons hj
    have hlen := (hf.rows c hc).1
    have hvm : v ∈ c := by rw [← List.take_append_drop j c, hj]; simp
    have hw := (hf.rows c hc).2 v hvm
    have hneg : wrap64 (-n) = -n := by unfold wrap64; omega
    have htake : c.take (j + 1) = c.take j ++ [v] := by
      rw [List.take_succ_eq_append_getElem hjl]
      have : rd c (j : Int) = c[j] := by simp [rd, List.getD, hjl]
      rw [← this, hv]
    cases hok : litOk n v with
    | true =>
      refine Ev.step (fun k => ?_) (ih (j + 1) hs (by rw [htake, List.all_append, ht]; simp [hok]))
      unfold litOk num0 at hok
      simp only [Bool.and_eq_true, decide_eq_true_eq] at hok
      have h1 : ¬ v = 0 := by intro e; subst e; simp at hok
      have h2 : ¬ v > n := by split at hok <;> omega
      have h3 : ¬ v < -n := by split at hok <;> omega
      rw [crossroadsref1_FormulaMay.l1, if_pos (by omega), if_pos (by omega), hci, if_pos (by omega), if_pos (by omega), hv, hneg, if_neg h1, if_neg h2, if_neg h3, wrap_succ hjl hlen]
    | false =>
      have hall : c.all (litOk n) = false := by
        rw [List.all_eq_false]; exact ⟨v, hvm, by simp [hok]⟩
      rw [hb hall]
      refine Ev.step (fun k => ?_) (Ev.now false)
      rw [crossroadsref1_FormulaMay.l1, if_pos (by omega), if_pos (by omega), hci, if_pos (by omega), if_pos (by omega), hv, hneg]
      unfold litOk num0 at hok
      simp only [Bool.and_eq_false_iff, decide_eq_false_iff_not] at hok
      by_cases h1 : v = 0
      · rw [if_pos h1]
      · rw [if_neg h1]
        by_cases h2 : v > n
        · rw [if_pos h2]
        · rw [if_neg h2, if_pos (by split at hok <;> omega)]

theorem rmay_l0 {n : Int} {f : List (List Int)} (hn0 : 0 ≤ n) (hn : n ≤ 65536) (hf : Came f) : ∀ (s : List (List Int)) (i : Nat), f.drop i = s → Ev (fun k => crossroadsref1_FormulaMay.l0 k n f (i : Int)) (s.all fun c => c.all (litOk n)) := by
  intro s
  induction s with
  | nil =>
    intro i hi
    refine Ev.step (fun k => ?_) (Ev.now true)
    rw [crossroadsref1_FormulaMay.l0, if_neg (drop_end hi)]
  | cons c s ih =>
    intro i hi
    obtain ⟨hil, hc, hs⟩ := rdL_cons hi
    have hcm : c ∈ f := by rw [← List.take_append_drop i f, hi]; simp
    refine Ev.step (f := fun k => crossroadsref1_FormulaMay.l1 k n f i ((0 : Nat) : Int)) (fun k => ?_) ?_
    · rw [crossroadsref1_FormulaMay.l0, if_pos (by omega)]; rfl
    · refine rmay_l1 hn0 hn hf i _ c hil hc hcm (fun hall => ?_) (fun hall => ?_) c 0 rfl (by simp)
      · rw [List.all_cons, hall, Bool.true_and]; exact ih (i + 1) hs
      · rw [List.all_cons, hall, Bool.false_and]

theorem rmay_is (n : Int) (f : List (List Int)) (hf : Came f) : Ev (fun k => crossroadsref1_FormulaMay.f k n f) (mayB n f) := by
  unfold crossroadsref1_FormulaMay.f mayB
  by_cases h0 : n < 0
  · rw [decide_eq_false (by omega : ¬ 0 ≤ n), Bool.false_and]
    refine Ev.step (f := fun _ => some false) (fun k => ?_) (Ev.now _)
    rw [if_pos h0, crossroadsref1_FormulaMay.j0, if_pos rfl]
  · rw [decide_eq_true (by omega : 0 ≤ n), Bool.true_and]
    by_cases h1 : n > 65536
    · rw [decide_eq_false (by omega : ¬ n ≤ 65536), Bool.false_and]
      refine Ev.step (f := fun _ => some false) (fun k => ?_) (Ev.now _)
      rw [if_neg h0, crossroadsref1_FormulaMay.j0, if_pos (by simpa using h1)]
    · rw [decide_eq_true (by omega : n ≤ 65536), Bool.true_and]
      refine Ev.step (f := fun k => crossroadsref1_FormulaMay.l0 k n f ((0 : Nat) : Int)) (fun k => ?_) (rmay_l0 (by omega) (by omega) hf f 0 rfl)
      rw [if_neg h0, crossroadsref1_FormulaMay.j0, if_neg (by simpa using h1)]; rfl

theorem small_some {f : List (List Int)} (hf : f.length ≤ 9223372036854775807) (m : Int) : ∃ b, Ev (fun k => crossroadslaw4_Small.f k f m) b := by
  have key : ∀ (s : List (List Int)) (i : Nat) (a : Int), f.drop i = s → ∃ b, Ev (fun k => crossroadslaw4_Small.l0 k f m a (i : Int)) b := by
    intro s
    induction s with
    | nil =>
      intro i a hi
      refine ⟨decide (a ≤ m), Ev.step (fun k => ?_) (Ev.now _)⟩
      rw [crossroadslaw4_Small.l0, if_neg (drop_end hi)]
    | cons c s ih =>
      intro i a hi
      obtain ⟨hil, hc, hs⟩ := rdL_cons hi
      obtain ⟨b, hb⟩ := ih (i + 1) (wrap64 (wrap64 (a + 1) + (c.length : Int))) hs
      refine ⟨b, Ev.step (fun k => ?_) hb⟩
      rw [crossroadslaw4_Small.l0, if_pos (by omega), if_pos (by omega), hc, wrap_succ hil hf]
  exact key f 0 0 rfl


theorem number_is (v : Int) : clause_Number.f v = some (num v) := by
  unfold clause_Number.f num
  split <;> rfl
theorem cmay_l1 {n : Int} {f : List (List Int)} (hn0 : 0 ≤ n) (hn : n ≤ 65536) (hf : Came f) (i : Nat) (b : Bool) (c : List Int) (hi : i < f.length) (hc : c ∈ f)
    (hr : c.all (litOk n) = true → Ev (fun k => clause_May.l0 k n f (f.length : Int) ((i + 1 : Nat) : Int)) b) (hb : c.all (litOk n) = false → b = false) :
    ∀ (s : List Int) (j : Nat), c.drop j = s → (c.take j).all (litOk n) = true → Ev (fun k => clause_May.l1 k n f (f.length : Int) i c (c.length : Int) (j : Int)) b := by
  intro s
  induction s with
  | nil =>
    intro j hj ht
    have hall : c.all (litOk n) = true := by
      rw [← List.take_append_drop j c, hj, List.append_nil]; exact ht
    refine Ev.step (fun k => ?_) (hr hall)
    rw [clause_May.l1, if_neg (drop_end hj), wrap_succ hi hf.len]
  | cons v s ih =>
    intro j hj ht
    obtain ⟨hjl, hv, hs⟩ := rd_cons hj
    have hlen := (hf.rows c hc).1
    have hvm : v ∈ c := by rw [← List.take_append_drop j c, hj]; simp
    have hw := (hf.rows c hc).2 v hvm
    have hnv := num_val hw
    have htake : c.take (j + 1) = c.take j ++ [v] := by
      rw [List.take_succ_eq_append_getElem hjl]
      have : rd c (j : Int) = c[j] := by simp [rd, List.getD, hjl]
      rw [← this, hv]
    cases hok : litOk n v with
    | true =>
      refine Ev.step (fun k => ?_) (ih (j + 1) hs (by rw [htake, List.all_append, ht]; simp [hok]))
      unfold litOk num0 at hok
      simp only [Bool.and_eq_true, decide_eq_true_eq] at hok
      have h1 : ¬ num v < 1 := by rw [hnv]; split <;> split at hok <;> (try split) <;> omega
      have h2 : ¬ num v > n := by rw [hnv]; split <;> split at hok <;> (try split) <;> omega
      rw [clause_May.l1, if_pos (by omega), if_pos (by omega), if_pos (by omega), hv, number_is, Option.bind_some, if_neg h1, if_neg h2, wrap_succ hjl hlen]
    | false =>
      have hall : c.all (litOk n) = false := by
        rw [List.all_eq_false]; exact ⟨v, hvm, by simp [hok]⟩
      rw [hb hall]
      refine Ev.step (fun k => ?_) (Ev.now false)
      rw [clause_May.l1, if_pos (by omega), if_pos (by omega), if_pos (by omega), hv, number_is, Option.bind_some]
      unfold litOk num0 at hok
      simp only [Bool.and_eq_false_iff, decide_eq_false_iff_not] at hok
      by_cases h1 : num v < 1
      · rw [if_pos h1]
      · rw [if_neg h1, if_pos (by rw [hnv] at h1 ⊢; split at h1 <;> (try split at h1) <;> split at hok <;> simp [*] <;> omega)]
theorem cmay_l0 {n : Int} {f : List (List Int)} (hn0 : 0 ≤ n) (hn : n ≤ 65536) (hf : Came f) : ∀ (s : List (List Int)) (i : Nat), f.drop i = s → Ev (fun k => clause_May.l0 k n f (f.length : Int) (i : Int)) (s.all fun c => c.all (litOk n)) := by
  intro s
  induction s with
  | nil =>
    intro i hi
    refine Ev.step (fun k => ?_) (Ev.now true)
    rw [clause_May.l0, if_neg (drop_end hi)]
  | cons c s ih =>
    intro i hi
    obtain ⟨hil, hc, hs⟩ := rdL_cons hi
    have hcm : c ∈ f := by rw [← List.take_append_drop i f, hi]; simp
    refine Ev.step (f := fun k => clause_May.l1 k n f (f.length : Int) i c (c.length : Int) ((0 : Nat) : Int)) (fun k => ?_) ?_
    · rw [clause_May.l0, if_pos (by omega), if_pos (by omega), if_pos (by omega), hc]; rfl
    · refine cmay_l1 hn0 hn hf i _ c hil hcm (fun hall => ?_) (fun hall => ?_) c 0 rfl (by simp)
      · rw [List.all_cons, hall, Bool.true_and]; exact ih (i + 1) hs
      · rw [List.all_cons, hall, Bool.false_and]
theorem cmay_is (n : Int) (f : List (List Int)) (hf : Came f) : Ev (fun k => clause_May.f k n f) (mayB n f) := by
  unfold clause_May.f mayB
  by_cases h0 : n < 0
  · rw [decide_eq_false (by omega : ¬ 0 ≤ n), Bool.false_and]
    refine Ev.step (f := fun _ => some false) (fun k => ?_) (Ev.now _)
    rw [if_pos h0, clause_May.j0, if_pos rfl]
  · rw [decide_eq_true (by omega : 0 ≤ n), Bool.true_and]
    by_cases h1 : n > 65536
    · rw [decide_eq_false (by omega : ¬ n ≤ 65536), Bool.false_and]
      refine Ev.step (f := fun _ => some false) (fun k => ?_) (Ev.now _)
      rw [if_neg h0, clause_May.j0, if_pos (by simpa using h1)]
    · rw [decide_eq_true (by omega : n ≤ 65536), Bool.true_and]
      refine Ev.step (f := fun k => clause_May.l0 k n f (f.length : Int) ((0 : Nat) : Int)) (fun k => ?_) (cmay_l0 (by omega) (by omega) hf f 0 rfl)
      rw [if_neg h0, clause_May.j0, if_neg (by simpa using h1)]; rfl
end Go.Proofs.Ytnhpfdnhnocgjaa.Lem
