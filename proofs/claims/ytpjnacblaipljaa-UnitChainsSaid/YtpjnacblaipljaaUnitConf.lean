/- What follows does not hang on the order of the clauses: runs over formulas of the same clauses come to the same. Plain Lean. -/
import Derived.Test.YtpjnacblaipljaaPureUnitGoes
namespace Go.Proofs.Ytpjnacblaipljaa.Conf
set_option linter.unusedVariables false
open Go.RowKit Go.Proofs.Ytpjnacblaipljaa.P Go.Proofs.Ytpjnacblaipljaa.Lem Go.Proofs.Ytpjnacblaipljaa.Pure Go.Proofs.YtpjnacblaipljaaW.PrintWords
/-- Nothing more follows of a clause, and it is not spoilt. -/
def Closed (a : List Int) (c : List Int) : Prop := last a 0 c = (0, true)
def Sub (m a : List Int) : Prop := ∀ i, m.getD i 0 ≠ 0 → a.getD i 0 = m.getD i 0
theorem again_stays : ∀ (s : List (List Int)) (m m' : List Int) (b : Bool), pass m true s = some (m', b) → b = true
  | [], m, m', b, hb => by rw [pass] at hb; exact ((Prod.mk.inj (Option.some.inj hb)).2).symm
  | c :: s, m, m', b, hb => by
    rw [pass] at hb
    split at hb
    · split at hb
      · exact again_stays s _ _ _ hb
      · exact again_stays s _ _ _ hb
    · cases hb
theorem closed_of : ∀ (s : List (List Int)) (a x : List Int), pass a false s = some (x, false) → ∀ c ∈ s, Closed a c
  | [], a, x, _ => fun c hc => by cases hc
  | c :: s, a, x, h => by
    rw [pass] at h
    by_cases h2 : (last a 0 c).2 = true
    · rw [if_pos h2] at h
      by_cases h1 : (last a 0 c).1 = 0
      · rw [if_pos h1] at h
        intro d hd
        rcases List.mem_cons.1 hd with rfl | hd
        · exact Prod.ext h1 h2
        · exact closed_of s a x h d hd
      · rw [if_neg h1] at h
        cases again_stays _ _ _ _ h
    · rw [if_neg h2] at h; cases h
theorem pass_closed : ∀ (s : List (List Int)) (a : List Int) (b : Bool), (∀ c ∈ s, Closed a c) → pass a b s = some (a, b)
  | [], a, b, _ => rfl
  | c :: s, a, b, h => by
    have hc := h c List.mem_cons_self
    unfold Closed at hc
    rw [pass, hc, if_pos rfl, if_pos rfl]
    exact pass_closed s a b (fun d hd => h d (List.mem_cons_of_mem _ hd))
theorem last_all (a : List Int) : ∀ (s : List Int) (one : Int), (∀ u ∈ s, val a u ≠ 1 ∧ val a u ≠ 0) → last a one s = (one, one != 0)
  | [], one, _ => rfl
  | v :: s, one, h => by
    have hv := h v List.mem_cons_self
    rw [last, if_neg hv.1, if_neg hv.2]
    exact last_all a s one (fun u hu => h u (List.mem_cons_of_mem _ hu))
theorem last_one (a : List Int) (v : Int) (hv : v ≠ 0) (h0 : val a v = 0) : ∀ (s : List Int) (one : Int), (one = 0 ∨ one = v) → (∀ u ∈ s, u = v ∨ (val a u ≠ 1 ∧ val a u ≠ 0)) → (one = v ∨ v ∈ s) → last a one s = (v, true)
  | [], one, ho, _, hm => by
    have : one = v := by rcases hm with h | h; exact h; cases h
    subst this
    rw [last]
    simp [hv]
  | u :: s, one, ho, h, hm => by
    have hs : ∀ x ∈ s, x = v ∨ (val a x ≠ 1 ∧ val a x ≠ 0) := fun x hx => h x (List.mem_cons_of_mem _ hx)
    by_cases hu : u = v
    · subst hu
      rw [last, if_neg (by omega), if_pos h0, if_pos ho]
      exact last_one a u hv h0 s u (.inr rfl) hs (.inl rfl)
    · have hf : val a u ≠ 1 ∧ val a u ≠ 0 := (h u List.mem_cons_self).resolve_left hu
      rw [last, if_neg hf.1, if_neg hf.2]
      refine last_one a v hv h0 s one ho hs ?_
      rcases hm with h | h
      · exact .inl h
      · rcases List.mem_cons.1 h with h | h
        · exact absurd h.symm hu
        · exact .inr h
theorem val_sub {m a : List Int} (h : Sub m a) {u : Int} (h1 : val m u ≠ 1 ∧ val m u ≠ 0) : val a u ≠ 1 ∧ val a u ≠ 0 := by
  have hz : m.getD (pos u) 0 ≠ 0 := by
    intro e
    apply h1.2
    unfold val
    rw [e]; split <;> rfl
  have : val a u = val m u := by unfold val; rw [h (pos u) hz]
  rw [this]; exact h1
theorem put_sub {n v : Int} {m a : List Int} (hn : n ≤ 65536) (hm : Asg n m) (hv : litOk n v = true) (h : Sub m a) (h1 : val a v = 1) : Sub (put m v) a := by
  obtain ⟨hp, he, h1', h2, h3⟩ := pos_lt hn hm hv
  intro i hi
  unfold put at hi ⊢
  by_cases e : i = pos v
  · subst e
    have : (m.set (pos v) (if v < 0 then -1 else 1)).getD (pos v) 0 = if v < 0 then -1 else 1 := by simp [List.getD, hp]
    rw [this]
    unfold val at h1
    by_cases hn0 : v < 0
    · rw [if_pos hn0] at h1 ⊢; omega
    · rw [if_neg hn0] at h1 ⊢; exact h1
  · have : (m.set (pos v) (if v < 0 then -1 else 1)).getD i 0 = m.getD i 0 := by simp [List.getD, List.getElem?_set_ne (fun h => e h.symm)]
    rw [this] at hi ⊢
    exact h i hi
theorem pass_sub {n : Int} (hn : n ≤ 65536) {a : List Int} : ∀ (s : List (List Int)) (m : List Int) (again : Bool), Asg n m → (∀ c ∈ s, ∀ v ∈ c, litOk n v = true) → (∀ c ∈ s, Closed a c) → Sub m a →
    ∃ m' b, pass m again s = some (m', b) ∧ Sub m' a
  | [], m, again, hm, _, _, ha => ⟨m, again, rfl, ha⟩
  | c :: s, m, again, hm, hs, hh, ha => by
    have hnz : ∀ v ∈ c, v ≠ 0 := fun v hv => lit_nz (hs c List.mem_cons_self v hv)
    have hc : last a 0 c = (0, true) := hh c List.mem_cons_self
    have h2 : (last m 0 c).2 = true := by
      apply Decidable.byContradiction
      intro h
      have e := last_all a c 0 (fun u hu => val_sub ha ((last_false m c 0 hnz h).2 u hu))
      rw [hc] at e
      cases e
    rw [pass, if_pos h2]
    by_cases h1 : (last m 0 c).1 = 0
    · rw [if_pos h1]
      exact pass_sub hn s m again hm (fun d hd => hs d (List.mem_cons_of_mem _ hd)) (fun d hd => hh d (List.mem_cons_of_mem _ hd)) ha
    · rw [if_neg h1]
      have hl : (last m 0 c).1 ∈ c := by
        rcases last_lit m c 0 with h | h | h
        · exact absurd h h1
        · exact absurd h h1
        · exact h.1
      have hoth : ∀ u ∈ c, u = (last m 0 c).1 ∨ (val a u ≠ 1 ∧ val a u ≠ 0) := fun u hu => ((last_unit m c 0 hnz h1).2 u hu).imp id (fun h => val_sub ha h)
      have hv1 : val a (last m 0 c).1 = 1 := by
        apply Decidable.byContradiction
        intro hne
        by_cases h0 : val a (last m 0 c).1 = 0
        · have e := last_one a (last m 0 c).1 h1 h0 c 0 (.inl rfl) hoth (.inr hl)
          rw [hc] at e
          exact h1 (congrArg Prod.fst e).symm
        · have e := last_all a c 0 (fun u hu => by
            rcases hoth u hu with h | h
            · rw [h]; exact ⟨hne, h0⟩
            · exact h)
          rw [hc] at e
          cases e
      exact pass_sub hn s _ true (put_asg hm) (fun d hd => hs d (List.mem_cons_of_mem _ hd)) (fun d hd => hh d (List.mem_cons_of_mem _ hd)) (put_sub hn hm (hs c List.mem_cons_self _ hl) ha hv1)
theorem runs_sub {n : Int} (hn : n ≤ 65536) {f : List (List Int)} (hf : ∀ c ∈ f, ∀ v ∈ c, litOk n v = true) {a : List Int} (hh : ∀ c ∈ f, Closed a c) {m : List Int} {r : Option (List Int)} (hr : Runs f m r) (hm : Asg n m) (ha : Sub m a) : ∃ m', r = some m' ∧ Sub m' a := by
  induction hr with
  | bad hp =>
    obtain ⟨m', b, e, _⟩ := pass_sub hn f _ false hm hf hh ha
    rw [hp] at e; cases e
  | done hp =>
    obtain ⟨m', b, e, g⟩ := pass_sub hn f _ false hm hf hh ha
    rw [hp] at e
    obtain ⟨rfl, _⟩ := Prod.mk.inj (Option.some.inj e)
    exact ⟨_, rfl, g⟩
  | again hp _ ih =>
    obtain ⟨m', b, e, g⟩ := pass_sub hn f _ false hm hf hh ha
    rw [hp] at e
    obtain ⟨rfl, _⟩ := Prod.mk.inj (Option.some.inj e)
    exact ih (pass_ok hn f _ false _ true hm hf hp).1 g
theorem runs_same {n : Int} (hn : n ≤ 65536) {f g : List (List Int)} (hf : ∀ c ∈ f, ∀ v ∈ c, litOk n v = true) (hfg : ∀ c, c ∈ g ↔ c ∈ f) {m : List Int} (hm : Asg n m) {r r' : Option (List Int)} (hr : Runs f m r) (hr' : Runs g m r') : r' = r := by
  have hg : ∀ c ∈ g, ∀ v ∈ c, litOk n v = true := fun c hc => hf c ((hfg c).1 hc)
  have left : ∀ a, r = some a → ∃ b, r' = some b ∧ Sub b a := fun a ha => by
    obtain ⟨h1, h2⟩ := runs_stays hn hf hr hm a ha
    exact runs_sub hn hg (fun c hc => closed_of f a a h2 c ((hfg c).1 hc)) hr' hm h1
  have right : ∀ b, r' = some b → ∃ a, r = some a ∧ Sub a b := fun b hb => by
    obtain ⟨h1, h2⟩ := runs_stays hn hg hr' hm b hb
    exact runs_sub hn hf (fun c hc => closed_of g b b h2 c ((hfg c).2 hc)) hr hm h1
  cases hra : r with
  | none =>
    cases hrb : r' with
    | none => rfl
    | some b =>
      obtain ⟨a, ha, _⟩ := right b hrb
      rw [hra] at ha; cases ha
  | some a =>
    obtain ⟨b, hb, hs⟩ := left a hra
    obtain ⟨a', ha', hs'⟩ := right b hb
    rw [hra] at ha'
    injection ha' with ha'
    subst ha'
    rw [hb]
    congr 1
    have la := (runs_asg hn hf hr hm a hra).len
    have lb := (runs_asg hn hg hr' hm b hb).len
    refine List.ext_getElem (by omega) fun i hi1 hi2 => ?_
    have e1 : b.getD i 0 = b[i] := by simp [List.getD, hi1]
    have e2 : a.getD i 0 = a[i] := by simp [List.getD, hi2]
    rw [← e1, ← e2]
    by_cases h : b.getD i 0 = 0
    · by_cases h' : a.getD i 0 = 0
      · rw [h, h']
      · exact hs' i h'
    · exact (hs i h).symm
end Go.Proofs.Ytpjnacblaipljaa.Conf
