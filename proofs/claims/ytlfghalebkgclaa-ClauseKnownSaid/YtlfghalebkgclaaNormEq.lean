/- What clause.Normal and the reference's Normal answer is one: the literals that have a number, each once, in order. -/
import Derived.Test.YtlfghalebkgclaaGNorm
namespace Go.Proofs.Ytlfghalebkgclaa.Lem
open Go.RowKit Go.Proofs.Ytlfghalebkgclaa.G Go.Proofs.YtlfghalebkgclaaW.PrintWords Go.Proofs.YtlfghalebkgclaaW.PrintLast Go.Proofs.YtlfghalebkgclaaW.PrintMore
open Go.Lib (compactUpTo keeps)
def lt3 (x y : Int) : Prop := num x < num y ∨ (num x = num y ∧ y < x)
theorem lt3_irr (x : Int) : ¬ lt3 x x := by unfold lt3; omega
theorem lt3_asym {x y : Int} (h : lt3 x y) : ¬ lt3 y x := by unfold lt3 at *; omega
theorem lt3_trans {x y z : Int} (h : lt3 x y) (h' : lt3 y z) : lt3 x z := by unfold lt3 at *; omega
theorem lt3_tri (x y : Int) : lt3 x y ∨ x = y ∨ lt3 y x := by unfold lt3; omega
/-- Rows that are strictly in order, of the same members, are one. -/
theorem uniq : ∀ a b : List Int, a.Pairwise lt3 → b.Pairwise lt3 → (∀ x, x ∈ a ↔ x ∈ b) → a = b
  | [], b, _, _, h => by
    cases b with
    | nil => rfl
    | cons y t => exact absurd ((h y).2 List.mem_cons_self) (by simp)
  | x :: a, b, ha, hb, h => by
    cases b with
    | nil => exact absurd ((h x).1 List.mem_cons_self) (by simp)
    | cons y b =>
      rw [List.pairwise_cons] at ha hb
      have hxy : x = y := by
        rcases List.mem_cons.1 ((h x).1 List.mem_cons_self) with h1 | h1
        · exact h1
        · rcases List.mem_cons.1 ((h y).2 List.mem_cons_self) with h2 | h2
          · exact h2.symm
          · exact absurd (hb.1 x h1) (lt3_asym (ha.1 y h2))
      subst hxy
      rw [uniq a b ha.2 hb.2 fun z => ?_]
      constructor
      · intro hz
        rcases List.mem_cons.1 ((h z).1 (List.mem_cons_of_mem _ hz)) with h1 | h1
        · subst h1; exact absurd (ha.1 z hz) (lt3_irr z)
        · exact h1
      · intro hz
        rcases List.mem_cons.1 ((h z).2 (List.mem_cons_of_mem _ hz)) with h1 | h1
        · subst h1; exact absurd (hb.1 z hz) (lt3_irr z)
        · exact h1
/-! ### clause.Normal -/
theorem leN_iff (x y : Int) : leN x y = true ↔ ¬ lt3 y x := by
  unfold leN
  rw [ltN, Bool.not_eq_true', decide_eq_false_iff_not]
  exact Iff.rfl
theorem sort_pair (l : List Int) : (sortN l).Pairwise (fun a b => leN a b = true) := by
  unfold sortN
  refine List.pairwise_mergeSort (fun a b c h1 h2 => ?_) (fun a b => ?_) _
  · rw [leN_iff] at *
    unfold lt3 at *
    omega
  · rw [Bool.or_eq_true, leN_iff, leN_iff]
    unfold lt3
    omega
theorem sort_mem (l : List Int) (v : Int) : v ∈ sortN l ↔ v ∈ l ∧ num v ≠ 0 := by
  unfold sortN keepN
  rw [List.mem_mergeSort, List.mem_filter]
  simp
theorem bang (s : List Int) (j : Nat) (h : j < s.length) : s.toArray[j]! = s[j] := by rw [getElem!_pos s.toArray j (by simpa using h)]; simp
theorem comp_mem (s : List Int) (v : Int) : v ∈ compactUpTo s.toArray s.length ↔ v ∈ s := by
  unfold compactUpTo
  rw [List.mem_map]
  constructor
  · rintro ⟨j, hj, rfl⟩
    have hj := List.mem_range.1 (List.mem_filter.1 hj).1
    show s.toArray[j]! ∈ s
    rw [bang s j hj]
    exact List.getElem_mem _
  · intro hv
    obtain ⟨j, hj, hvj⟩ := List.mem_iff_getElem.1 hv
    have key : ∀ j : Nat, ∀ hj : j < s.length, ∃ i, ∃ hi : i < s.length, s[i] = s[j] ∧ keeps s.toArray i = true := by
      intro j
      induction j with
      | zero => intro hj; exact ⟨0, hj, rfl, by unfold keeps; simp⟩
      | succ j ih =>
        intro hj
        by_cases he : s[j + 1] = s[j]
        · obtain ⟨i, hi, e, hk⟩ := ih (by omega)
          exact ⟨i, hi, e.trans he.symm, hk⟩
        · refine ⟨j + 1, hj, rfl, ?_⟩
          unfold keeps
          rw [bang s (j + 1) hj, show j + 1 - 1 = j from rfl, bang s j (by omega)]
          exact decide_eq_true (Or.inr he)
    obtain ⟨i, hi, e, hk⟩ := key j hj
    exact ⟨i, List.mem_filter.2 ⟨List.mem_range.2 hi, hk⟩, by show s.toArray[i]! = v; rw [bang s i hi, e, hvj]⟩
theorem comp_pair (s : List Int) (hs : s.Pairwise (fun a b => leN a b = true)) : (compactUpTo s.toArray s.length).Pairwise lt3 := by
  unfold compactUpTo
  rw [List.pairwise_map, List.pairwise_filter]
  refine List.Pairwise.imp_of_mem ?_ (List.pairwise_lt_range (n := s.length))
  intro i j hi hj hij _ hk
  have hj' := List.mem_range.1 hj
  have hi' := List.mem_range.1 hi
  show lt3 s.toArray[i]! s.toArray[j]!
  rw [bang s i hi', bang s j hj']
  have hle : ∀ a b (hab : a < b) (hb : b < s.length), ¬ lt3 s[b] (s[a]'(by omega)) := fun a b hab hb => (leN_iff _ _).1 (List.pairwise_iff_getElem.1 hs a b (by omega) hb hab)
  unfold keeps at hk
  have hk := of_decide_eq_true hk
  rcases hk with hk | hk
  · omega
  · rw [bang s j hj', bang s (j - 1) (by omega)] at hk
    have h1 := hle (j - 1) j (by omega) hj'
    have h2 : lt3 (s[j - 1]'(by omega)) s[j] := by
      rcases lt3_tri (s[j - 1]'(by omega)) s[j] with h | h | h
      · exact h
      · exact absurd h.symm hk
      · exact absurd h h1
    by_cases he : i = j - 1
    · subst he; exact h2
    · have h3 := hle i (j - 1) (by omega) (by omega)
      rcases lt3_tri s[i] (s[j - 1]'(by omega)) with h | h | h
      · exact lt3_trans h h2
      · rw [h]; exact h2
      · exact absurd h h3
/-- The row that Normal makes ahead of its last test. -/
def rowN (l : List Int) : List Int := compactUpTo (sortN l).toArray (sortN l).length
theorem normN_eq (l : List Int) : normN l = endN (rowN l) := rfl
theorem rowN_mem (l : List Int) (v : Int) : v ∈ rowN l ↔ v ∈ l ∧ num v ≠ 0 := by unfold rowN; rw [comp_mem, sort_mem]
theorem rowN_pair (l : List Int) : (rowN l).Pairwise lt3 := comp_pair _ (sort_pair l)
theorem rowN_same (a b : List Int) (h : ∀ v, v ∈ a ↔ v ∈ b) : rowN a = rowN b := uniq _ _ (rowN_pair a) (rowN_pair b) fun v => by rw [rowN_mem, rowN_mem, h v]
/-! ### the reference's -/
def W64 (v : Int) : Prop := -9223372036854775808 ≤ v ∧ v ≤ 9223372036854775807
theorem numR_eq {v : Int} (_h : W64 v) (h0 : num v ≠ 0) : numR v = num v := by
  unfold num at *
  by_cases hm : v = -9223372036854775808
  · rw [if_pos hm] at h0; exact absurd rfl h0
  · rw [if_neg hm]; rfl
theorem num_val {v : Int} (h : W64 v) : num v = if v = -9223372036854775808 then 0 else if v < 0 then -v else v := by
  unfold num
  by_cases hm : v = -9223372036854775808
  · rw [if_pos hm, if_pos hm]
  · rw [if_neg hm, if_neg hm]
    unfold W64 at h
    have hw : wrap64 (-v) = -v := by unfold wrap64; omega
    rw [hw]
    unfold mx
    split <;> split <;> omega
theorem num_zero {v : Int} (h : W64 v) : num v = 0 ↔ (v = 0 ∨ v = wrap64 (-v)) := by
  rw [num_val h]
  unfold W64 at h
  unfold wrap64
  split
  · omega
  · split <;> omega
theorem lessR_iff {a b : Int} (ha : W64 a) (hb : W64 b) (h1 : num a ≠ 0) (h2 : num b ≠ 0) : lessR a b = true ↔ lt3 a b := by
  unfold lessR lt3
  rw [numR_eq ha h1, numR_eq hb h2]
  simp
theorem insR_spec (l : Int) (out : List Int) (hl : W64 l) (hl0 : num l ≠ 0) (ho : ∀ v ∈ out, W64 v ∧ num v ≠ 0) (hp : out.Pairwise lt3) : (insR l out).Pairwise lt3 ∧ ∀ v, v ∈ insR l out ↔ v ∈ out ∨ v = l := by
  obtain ⟨A, B, hAB, hA, hB⟩ : ∃ A B, out = A ++ B ∧ (out.takeWhile fun x => lessR x l) = A ∧ (out.dropWhile fun x => lessR x l) = B := ⟨_, _, List.takeWhile_append_dropWhile.symm, rfl, rfl⟩
  have hAl : ∀ x ∈ A, lt3 x l := fun x hx => by
    have h1 := List.all_eq_true.1 (List.all_takeWhile (p := fun x => lessR x l) (l := out)) x (by rw [hA]; exact hx)
    have hxo : x ∈ out := by rw [hAB]; exact List.mem_append_left _ hx
    exact (lessR_iff (ho x hxo).1 hl (ho x hxo).2 hl0).1 h1
  have hp2 := hp
  rw [hAB, List.pairwise_append] at hp2
  unfold insR
  rw [hA]
  have hget : out[A.length]? = B[0]? := by rw [hAB, List.getElem?_append_right (Nat.le_refl _), Nat.sub_self]
  have htake : out.take A.length = A := by rw [hAB, List.take_left']; rfl
  have hdrop : out.drop A.length = B := by rw [hAB, List.drop_left']; rfl
  rw [hget, htake, hdrop]
  cases hBB : B with
  | nil =>
    rw [hBB] at hAB
    rw [if_neg (by simp)]
    rw [List.append_nil] at hAB
    rw [List.append_nil]
    refine ⟨?_, fun v => by rw [List.mem_append, hAB, List.mem_singleton]⟩
    rw [List.pairwise_append]
    exact ⟨hp2.1, List.pairwise_singleton _ _, fun a ha b hb => by rw [List.mem_singleton.1 hb]; exact hAl a ha⟩
  | cons d t =>
    have hdn : ¬ lt3 d l := by
      have h1 := List.head_dropWhile_not (fun x => lessR x l) (l := out) (by rw [hB, hBB]; simp)
      have h2 : lessR d l = false := by
        have e : (out.dropWhile fun x => lessR x l).head (by rw [hB, hBB]; simp) = d := by simp [hB, hBB]
        rwa [e] at h1
      have hdo : d ∈ out := by rw [hAB, hBB]; simp
      intro h
      rw [(lessR_iff (ho d hdo).1 hl (ho d hdo).2 hl0).2 h] at h2
      cases h2
    by_cases hd : d = l
    · subst hd
      rw [if_pos (show (d :: t)[0]? = some d from rfl)]
      refine ⟨hp, fun v => ⟨Or.inl, fun h => h.elim id fun h => ?_⟩⟩
      rw [h, hAB, hBB]; simp
    · rw [if_neg (by simpa using hd)]
      have hld : lt3 l d := by
        rcases lt3_tri l d with h | h | h
        · exact h
        · exact absurd h.symm hd
        · exact absurd h hdn
      rw [hBB] at hp2 hAB
      have hp3 := List.pairwise_cons.1 hp2.2.1
      refine ⟨?_, fun v => ?_⟩
      · rw [List.append_assoc, List.pairwise_append]
        refine ⟨hp2.1, ?_, ?_⟩
        · rw [List.singleton_append, List.pairwise_cons]
          refine ⟨fun z hz => ?_, hp2.2.1⟩
          rcases List.mem_cons.1 hz with h | h
          · rw [h]; exact hld
          · exact lt3_trans hld (hp3.1 z h)
        · intro a ha b hb
          rw [List.singleton_append] at hb
          rcases List.mem_cons.1 hb with h | h
          · rw [h]; exact hAl a ha
          · exact hp2.2.2 a ha b h
      · rw [List.mem_append, List.mem_append, hAB, List.mem_append, List.mem_singleton]
        constructor
        · rintro ((h | h) | h)
          · exact .inl (.inl h)
          · exact .inr h
          · exact .inl (.inr h)
        · rintro ((h | h) | h)
          · exact .inl (.inl h)
          · exact .inr h
          · exact .inl (.inr h)
theorem fold_spec : ∀ (c out : List Int), (∀ v ∈ c, W64 v) → (∀ v ∈ out, W64 v ∧ num v ≠ 0) → out.Pairwise lt3 → (c.foldl stepR out).Pairwise lt3 ∧ ∀ v, v ∈ c.foldl stepR out ↔ v ∈ out ∨ (v ∈ c ∧ num v ≠ 0)
  | [], out, _, _, hp => ⟨hp, fun v => by simp⟩
  | l :: c, out, hc, ho, hp => by
    have hl := hc l List.mem_cons_self
    have hc' : ∀ v ∈ c, W64 v := fun v hv => hc v (List.mem_cons_of_mem _ hv)
    rw [List.foldl_cons]
    unfold stepR
    by_cases h0 : num l = 0
    · rw [if_pos ((num_zero hl).1 h0)]
      obtain ⟨h1, h2⟩ := fold_spec c out hc' ho hp
      refine ⟨h1, fun v => (h2 v).trans ?_⟩
      constructor
      · exact Or.imp id fun h => ⟨List.mem_cons_of_mem _ h.1, h.2⟩
      · refine Or.imp id fun h => ⟨?_, h.2⟩
        rcases List.mem_cons.1 h.1 with e | e
        · exact absurd (e ▸ h0) h.2
        · exact e
    · rw [if_neg (fun h => h0 ((num_zero hl).2 h))]
      obtain ⟨i1, i2⟩ := insR_spec l out hl h0 ho hp
      obtain ⟨h1, h2⟩ := fold_spec c (insR l out) hc' (fun v hv => by
        rcases (i2 v).1 hv with h | h
        · exact ho v h
        · rw [h]; exact ⟨hl, h0⟩) i1
      refine ⟨h1, fun v => (h2 v).trans ?_⟩
      rw [i2 v]
      constructor
      · rintro ((h | h) | h)
        · exact .inl h
        · exact .inr ⟨by rw [h]; exact List.mem_cons_self, by rw [h]; exact h0⟩
        · exact .inr ⟨List.mem_cons_of_mem _ h.1, h.2⟩
      · rintro (h | h)
        · exact .inl (.inl h)
        · rcases List.mem_cons.1 h.1 with e | e
          · exact .inl (.inr e)
          · exact .inr ⟨e, h.2⟩
theorem norm_eq (c : List Int) (hc : ∀ v ∈ c, W64 v) : normN c = normR c := by
  rw [normN_eq]
  unfold normR
  obtain ⟨h1, h2⟩ := fold_spec c [] hc (fun v hv => absurd hv (by simp)) List.Pairwise.nil
  rw [uniq (rowN c) (c.foldl stepR []) (rowN_pair c) h1 fun v => by rw [rowN_mem, h2 v]; simp]
end Go.Proofs.Ytlfghalebkgclaa.Lem
