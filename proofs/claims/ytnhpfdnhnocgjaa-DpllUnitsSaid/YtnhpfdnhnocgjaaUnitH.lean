/- What the reference's Unit answers, in plain words (turned to this seat out of the seat of layer 5). -/
import Derived.Test.YtnhpfdnhnocgjaaHpV
namespace Go.Proofs.Ytnhpfdnhnocgjaa.Un
open Go.RowKit Go.Proofs.Ytnhpfdnhnocgjaa.P Go.Proofs.Ytnhpfdnhnocgjaa.Lem Go.Proofs.YtnhpfdnhnocgjaaW.PrintWords Go.Proofs.YtnhpfdnhnocgjaaW.PrintLast Go.Proofs.YtnhpfdnhnocgjaaW.PrintMore
set_option linter.unusedVariables false
set_option linter.unusedSimpArgs false

/-- Where a literal's variable stands. -/
def pos (v : Int) : Nat := (num0 v - 1).toNat
/-- A literal's truth: 1, 0 (open), -1. -/
def val (m : List Int) (v : Int) : Int := if v < 0 then -(m.getD (pos v) 0) else m.getD (pos v) 0
/-- All that is assigned is -1, 0 or 1, of n variables. -/
structure Asg (n : Int) (m : List Int) : Prop where
  len : (m.length : Int) = n
  rng : ∀ x ∈ m, -1 ≤ x ∧ x ≤ 1
theorem Asg.at {n : Int} {m : List Int} (h : Asg n m) (i : Nat) : -1 ≤ m.getD i 0 ∧ m.getD i 0 ≤ 1 := by
  by_cases hi : i < m.length
  · have := h.rng m[i] (List.getElem_mem hi)
    simpa [List.getD, hi] using this
  · simp [List.getD, List.getElem?_eq_none (by omega : m.length ≤ i)]
theorem ok_num {n v : Int} (h : litOk n v = true) : 1 ≤ num0 v ∧ num0 v ≤ n := by
  unfold litOk at h
  simpa using h
theorem pos_lt {n v : Int} {m : List Int} (hn : n ≤ 65536) (hm : Asg n m) (h : litOk n v = true) : pos v < m.length ∧ ((pos v : Nat) : Int) = num0 v - 1 ∧ -65536 ≤ v ∧ v ≤ 65536 ∧ v ≠ 0 := by
  obtain ⟨h1, h2⟩ := ok_num h
  have := hm.len
  have e : ((pos v : Nat) : Int) = num0 v - 1 := by unfold pos; omega
  refine ⟨by omega, e, ?_, ?_, ?_⟩ <;> unfold num0 at h1 h2 <;> split at h1 <;> split at h2 <;> omega
theorem rd_at (m : List Int) (i : Nat) : rd m (i : Int) = m.getD i 0 := by simp [rd]
theorem idx_neg {v : Int} (h0 : -65536 ≤ v) (h : v < 0) : wrap64 (wrap64 (-v) - 1) = num0 v - 1 := by unfold num0 wrap64; rw [if_pos h]; omega
theorem idx_pos {v : Int} (h0 : v ≤ 65536) (h : ¬ v < 0) (h2 : v ≠ 0) : wrap64 (v - 1) = num0 v - 1 := by unfold num0 wrap64; rw [if_neg h]; omega
theorem idx_mx {v : Int} (h0 : -65536 ≤ v) (h1 : v ≤ 65536) (h2 : v ≠ 0) : wrap64 (mx v (wrap64 (-v)) - 1) = num0 v - 1 := by
  have e : wrap64 (-v) = -v := by unfold wrap64; omega
  rw [e]; unfold mx num0 wrap64
  split <;> split <;> omega
/-- A clause's one open literal; 0: it has more, or holds; false: nothing is left. -/
def last (m : List Int) : Int → List Int → Int × Bool
  | one, [] => (one, one != 0)
  | one, v :: c => if val m v = 1 then (0, true) else if val m v = 0 then (if one = 0 ∨ one = v then last m v c else (0, true)) else last m one c
/-- Its literal is 0, or an open one of the clause. -/
theorem last_lit (m : List Int) : ∀ (c : List Int) (one : Int), (last m one c).1 = 0 ∨ (last m one c).1 = one ∨ ((last m one c).1 ∈ c ∧ val m (last m one c).1 = 0)
  | [], one => .inr (.inl rfl)
  | v :: c, one => by
    rw [last]
    by_cases h1 : val m v = 1
    · rw [if_pos h1]; exact .inl rfl
    · rw [if_neg h1]
      by_cases h0 : val m v = 0
      · rw [if_pos h0]
        by_cases ho : one = 0 ∨ one = v
        · rw [if_pos ho]
          rcases last_lit m c v with h | h | ⟨h, h2⟩
          · exact .inl h
          · exact .inr (.inr ⟨by rw [h]; simp, by rw [h]; exact h0⟩)
          · exact .inr (.inr ⟨List.mem_cons_of_mem _ h, h2⟩)
        · rw [if_neg ho]; exact .inl rfl
      · rw [if_neg h0]
        rcases last_lit m c one with h | h | ⟨h, h2⟩
        · exact .inl h
        · exact .inr (.inl h)
        · exact .inr (.inr ⟨List.mem_cons_of_mem _ h, h2⟩)
/-- A literal made to hold. -/
def put (m : List Int) (v : Int) : List Int := m.set (pos v) (if v < 0 then -1 else 1)
/-- One pass over clauses: none: nothing is left of one; else what is assigned, and whether something was. -/
def pass : List Int → Bool → List (List Int) → Option (List Int × Bool)
  | m, again, [] => some (m, again)
  | m, again, c :: s => if (last m 0 c).2 = true then (if (last m 0 c).1 = 0 then pass m again s else pass (put m (last m 0 c).1) true s) else none
def zeros (m : List Int) : Nat := m.count 0
theorem put_asg {n v : Int} {m : List Int} (hm : Asg n m) : Asg n (put m v) := by
  unfold put
  refine ⟨by rw [List.length_set]; exact hm.len, fun x hx => ?_⟩
  rcases List.mem_or_eq_of_mem_set hx with h | h
  · exact hm.rng x h
  · subst h; split <;> omega
theorem put_zeros {n v : Int} {m : List Int} (hn : n ≤ 65536) (hm : Asg n m) (hv : litOk n v = true) (h0 : val m v = 0) : zeros (put m v) < zeros m := by
  obtain ⟨hp, he, h1, h2, h3⟩ := pos_lt hn hm hv
  have hz : m[pos v] = 0 := by
    have : m.getD (pos v) 0 = 0 := by unfold val at h0; split at h0 <;> omega
    simpa [List.getD, hp] using this
  unfold zeros put
  rw [List.count_set hp, hz]
  have hc : 0 < m.count 0 := List.count_pos_iff.2 (by rw [← hz]; exact List.getElem_mem hp)
  have e : ((if v < 0 then (-1 : Int) else 1) == 0) = false := by split <;> decide
  rw [e]; simp; omega
theorem pass_ok {n : Int} (hn : n ≤ 65536) : ∀ (s : List (List Int)) (m : List Int) (again : Bool) (m' : List Int) (again' : Bool), Asg n m → (∀ c ∈ s, ∀ v ∈ c, litOk n v = true) → pass m again s = some (m', again') →
    Asg n m' ∧ zeros m' ≤ zeros m ∧ (again' = true → again = true ∨ zeros m' < zeros m) ∧ (again' = false → m' = m)
  | [], m, again, m', again', hm, _, h => by
    rw [pass] at h
    obtain ⟨rfl, rfl⟩ := Prod.mk.inj (Option.some.inj h)
    exact ⟨hm, Nat.le_refl _, fun h => .inl h, fun _ => rfl⟩
  | c :: s, m, again, m', again', hm, hs, h => by
    rw [pass] at h
    by_cases h2 : (last m 0 c).2 = true
    · rw [if_pos h2] at h
      by_cases h1 : (last m 0 c).1 = 0
      · rw [if_pos h1] at h
        exact pass_ok hn s m again m' again' hm (fun d hd => hs d (List.mem_cons_of_mem _ hd)) h
      · rw [if_neg h1] at h
        have hl : (last m 0 c).1 ∈ c ∧ val m (last m 0 c).1 = 0 := by
          rcases last_lit m c 0 with h | h | h
          · exact absurd h h1
          · exact absurd h h1
          · exact h
        have hz := put_zeros hn hm (hs c (List.mem_cons_self) _ hl.1) hl.2
        obtain ⟨a, b, d, e⟩ := pass_ok hn s _ true m' again' (put_asg hm) (fun d hd => hs d (List.mem_cons_of_mem _ hd)) h
        refine ⟨a, by omega, fun _ => .inr (by omega), fun ha => ?_⟩
        -- 'again' was true on the way, and stays
        exfalso
        have : ∀ (s : List (List Int)) (m : List Int) (m' : List Int) (b : Bool), pass m true s = some (m', b) → b = true := by
          intro s
          induction s with
          | nil => intro m m' b hb; rw [pass] at hb; exact ((Prod.mk.inj (Option.some.inj hb)).2).symm
          | cons c s ih =>
            intro m m' b hb
            rw [pass] at hb
            split at hb
            · split at hb
              · exact ih _ _ _ hb
              · exact ih _ _ _ hb
            · cases hb
        rw [this s _ m' again' h] at ha
        cases ha
    · rw [if_neg h2] at h; cases h
/-- All passes, till nothing more follows. -/
inductive Runs (f : List (List Int)) : List Int → Option (List Int) → Prop
  | bad {m} : pass m false f = none → Runs f m none
  | done {m m'} : pass m false f = some (m', false) → Runs f m (some m')
  | again {m m' r} : pass m false f = some (m', true) → Runs f m' r → Runs f m r
theorem runs_some {n : Int} (hn : n ≤ 65536) {f : List (List Int)} (hf : ∀ c ∈ f, ∀ v ∈ c, litOk n v = true) : ∀ (z : Nat) (m : List Int), zeros m = z → Asg n m → ∃ r, Runs f m r := by
  intro z
  induction z using Nat.strongRecOn with
  | _ z ih =>
    intro m hz hm
    match hp : pass m false f with
    | none => exact ⟨none, .bad hp⟩
    | some (m', false) => exact ⟨some m', .done hp⟩
    | some (m', true) =>
      obtain ⟨a, b, d, _⟩ := pass_ok hn f m false m' true hm hf hp
      have hlt : zeros m' < zeros m := by rcases d rfl with h | h; cases h; exact h
      obtain ⟨r, hr⟩ := ih (zeros m') (by omega) m' rfl a
      exact ⟨r, .again hp hr⟩
theorem set_is {n v : Int} {m : List Int} (hn : n ≤ 65536) (hm : Asg n m) (h : litOk n v = true) : (v > 0 → 0 ≤ wrap64 (v - 1) ∧ wrap64 (v - 1) < m.length ∧ m.set (wrap64 (v - 1)).toNat 1 = put m v) ∧
    (v < 0 → 0 ≤ wrap64 (wrap64 (-v) - 1) ∧ wrap64 (wrap64 (-v) - 1) < m.length ∧ m.set (wrap64 (wrap64 (-v) - 1)).toNat (-1) = put m v) := by
  obtain ⟨hp, he, h1, h2, h3⟩ := pos_lt hn hm h
  constructor
  · intro hv
    rw [idx_pos h2 (by omega) h3]
    refine ⟨by omega, by omega, ?_⟩
    unfold put pos
    rw [if_neg (by omega)]
  · intro hv
    rw [idx_neg h1 hv]
    refine ⟨by omega, by omega, ?_⟩
    unfold put pos
    rw [if_pos hv]

def anyHolds (m : List Int) (c : List Int) : Bool := c.any fun v => decide (val m v = 1)
def openLast (m : List Int) : Int → List Int → Int
  | o, [] => o
  | o, v :: c => if val m v = 0 then openLast m v c else openLast m o c
def differ (m : List Int) : Int → List Int → Bool
  | _, [] => false
  | first, v :: c => if val m v = 0 then (if first = 0 then differ m v c else if v = first then differ m first c else true) else differ m first c
theorem last_says (m : List Int) : ∀ (s : List Int) (one : Int), last m one s = if (anyHolds m s || differ m one s) = true then (0, true) else (openLast m one s, openLast m one s != 0)
  | [], one => by simp [last, anyHolds, differ, openLast]
  | v :: s, one => by
    have ha : anyHolds m (v :: s) = (decide (val m v = 1) || anyHolds m s) := by simp [anyHolds]
    rw [last, ha, differ, openLast]
    by_cases h1 : val m v = 1
    · rw [if_pos h1, decide_eq_true h1]; simp
    · rw [if_neg h1, decide_eq_false h1, Bool.false_or]
      by_cases h0 : val m v = 0
      · rw [if_pos h0, if_pos h0, if_pos h0]
        by_cases ho : one = 0
        · rw [if_pos (.inl ho), if_pos ho]; exact last_says m s v
        · by_cases ho2 : one = v
          · rw [if_pos (.inr ho2), if_neg ho, if_pos ho2.symm, ← ho2]; exact last_says m s one
          · rw [if_neg (fun h => h.elim ho ho2), if_neg ho, if_neg (fun h : v = one => ho2 h.symm), Bool.or_true, if_pos rfl]
      · rw [if_neg h0, if_neg h0, if_neg h0]; exact last_says m s one
theorem val_zero {n v : Int} {m : List Int} : val m v = 0 ↔ m.getD (pos v) 0 = 0 := by
  unfold val; split <;> omega
theorem val_one {n v : Int} {m : List Int} (hm : Asg n m) (hv : v ≠ 0) (h0 : ¬ m.getD (pos v) 0 = 0) : decide (val m v = 1) = ((m.getD (pos v) 0 == 1) == decide (v > 0)) := by
  have hr := hm.at (pos v)
  unfold val
  generalize m.getD (pos v) 0 = s at *
  have hs : s = 1 ∨ s = -1 := by omega
  by_cases hn : v < 0
  · rw [if_pos hn, decide_eq_false (by omega : ¬ v > 0)]
    rcases hs with rfl | rfl <;> rfl
  · rw [if_neg hn, decide_eq_true (by omega : v > 0)]
    rcases hs with rfl | rfl <;> rfl
theorem ref_idx {n v : Int} {m : List Int} (hn : n ≤ 65536) (hm : Asg n m) (h : litOk n v = true) : wrap64 (mx v (wrap64 (-v)) - 1) = ((pos v : Nat) : Int) ∧ pos v < m.length ∧ v ≠ 0 := by
  obtain ⟨hp, he, h1, h2, h3⟩ := pos_lt hn hm h
  rw [idx_mx h1 h2 h3, he]
  exact ⟨rfl, hp, h3⟩
theorem differ_is {n : Int} {m : List Int} (hn : n ≤ 65536) (hm : Asg n m) (c : List Int) (hl : c.length ≤ 9223372036854775807) (hc : ∀ v ∈ c, litOk n v = true) :
    ∀ (s : List Int) (j : Nat) (first : Int), c.drop j = s → Ev (fun k => crossroadsref1_differ.l0 k c m first (j : Int)) (differ m first s) := by
  intro s
  induction s with
  | nil =>
    intro j first hj
    refine Ev.step (fun k => ?_) (Ev.now _)
    rw [crossroadsref1_differ.l0, if_neg (drop_end hj)]; rfl
  | cons v s ih =>
    intro j first hj
    obtain ⟨hjl, hv, hs⟩ := rd_cons hj
    have hvm : v ∈ c := by rw [← List.take_append_drop j c, hj]; simp
    obtain ⟨hi, hp, h0⟩ := ref_idx hn hm (hc v hvm)
    have hz := @val_zero n v m
    rw [differ]
    by_cases hv0 : val m v = 0
    · rw [if_pos hv0]
      by_cases hf : first = 0
      · rw [if_pos hf]
        refine Ev.step (fun k => ?_) (ih (j + 1) v hs)
        rw [crossroadsref1_differ.l0, if_pos (by omega), if_pos (by omega), hv, hi, if_pos (by omega), if_pos (by omega), rd_at, if_pos (hz.1 hv0), if_pos hf, wrap_succ hjl hl]
      · rw [if_neg hf]
        by_cases he : v = first
        · rw [if_pos he]
          refine Ev.step (fun k => ?_) (ih (j + 1) first hs)
          rw [crossroadsref1_differ.l0, if_pos (by omega), if_pos (by omega), hv, hi, if_pos (by omega), if_pos (by omega), rd_at, if_pos (hz.1 hv0), if_neg hf, if_pos he, wrap_succ hjl hl]
        · rw [if_neg he]
          refine Ev.step (fun k => ?_) (Ev.now _)
          rw [crossroadsref1_differ.l0, if_pos (by omega), if_pos (by omega), hv, hi, if_pos (by omega), if_pos (by omega), rd_at, if_pos (hz.1 hv0), if_neg hf, if_neg he]
    · rw [if_neg hv0]
      refine Ev.step (fun k => ?_) (ih (j + 1) first hs)
      rw [crossroadsref1_differ.l0, if_pos (by omega), if_pos (by omega), hv, hi, if_pos (by omega), if_pos (by omega), rd_at, if_neg (fun h => hv0 (hz.2 h)), wrap_succ hjl hl]
def rsaid : Option (List Int) → List Int × Bool
  | none => ([], true)
  | some m => (m, false)
theorem rput {n v : Int} {m : List Int} (hn : n ≤ 65536) (hm : Asg n m) (h : litOk n v = true) (f : List Int → Option (List Int × Bool)) :
    (if 0 ≤ (wrap64 ((mx v (wrap64 (-v))) - 1)) then (if (wrap64 ((mx v (wrap64 (-v))) - 1)) < (m.length : Int) then ((some (m.set ((wrap64 ((mx v (wrap64 (-v))) - 1)) : Int).toNat 1 : List Int)).bind fun y156 => (if v < 0 then (if 0 ≤ (wrap64 ((wrap64 (-v)) - 1)) then (if (wrap64 ((wrap64 (-v)) - 1)) < (m.length : Int) then (f (y156.set ((wrap64 ((wrap64 (-v)) - 1)) : Int).toNat (-1))) else (none)) else (none)) else (f y156))) else (none)) else (none)) = f (put m v) := by
  obtain ⟨hi, hp, h0⟩ := ref_idx hn hm h
  obtain ⟨g1, g2⟩ := set_is hn hm h
  rw [hi, if_pos (by omega), if_pos (by omega), Option.bind_some]
  by_cases hv : v < 0
  · obtain ⟨a, b, d⟩ := g2 hv
    rw [if_pos hv, if_pos a, if_pos b]
    congr 1
    obtain ⟨_, he, h1, _, _⟩ := pos_lt hn hm h
    have e : (wrap64 (wrap64 (-v) - 1)).toNat = pos v := by rw [idx_neg h1 hv, ← he]; simp
    rw [e]
    unfold put
    rw [if_pos hv]
    simp [List.set_set]
  · rw [if_neg hv]
    congr 1
    unfold put
    rw [if_neg hv]
    simp
theorem ref_l2 {n : Int} (hn : n ≤ 65536) {f : List (List Int)} (hc : Came f) (hf : ∀ c ∈ f, ∀ v ∈ c, litOk n v = true) (r : List Int × Bool) (m : List Int) (change : Bool) (i : Nat) (c : List Int) (hm : Asg n m) (hil : i < f.length) (hci : rd_L1 f (i : Int) = c) (hcm : c ∈ f)
    (hend : ∀ ok o, anyHolds m c = ok → openLast m 0 c = o → Ev (fun k => if ok = true then (crossroadsref1_Unit.j3 k f m change i o true) else ((crossroadsref1_differ.f k c m).bind fun t155 => (crossroadsref1_Unit.j3 k f m change i o t155))) r) :
    ∀ (s : List Int) (j : Nat) (ok : Bool) (o : Int), c.drop j = s → (ok || anyHolds m s) = anyHolds m c → openLast m o s = openLast m 0 c → Ev (fun k => crossroadsref1_Unit.l2 k f m change i ok o (j : Int)) r := by
  intro s
  induction s with
  | nil =>
    intro j ok o hj hok ho
    refine Ev.step (fun k => ?_) (hend ok o (by rw [← hok]; simp [anyHolds]) (by rw [← ho]; rfl))
    rw [crossroadsref1_Unit.l2, if_pos (by omega), if_pos (by omega), hci, if_neg (drop_end hj)]
  | cons v s ih =>
    intro j ok o hj hok ho
    obtain ⟨hjl, hv, hs⟩ := rd_cons hj
    have hvm : v ∈ c := by rw [← List.take_append_drop j c, hj]; simp
    obtain ⟨hi, hp, h0⟩ := ref_idx hn hm (hf c hcm v hvm)
    have hz := @val_zero n v m
    have ha : anyHolds m (v :: s) = (decide (val m v = 1) || anyHolds m s) := by simp [anyHolds]
    have hl := (hc.rows c hcm).1
    rw [ha] at hok
    rw [openLast] at ho
    by_cases hv0 : val m v = 0
    · rw [if_pos hv0] at ho
      rw [decide_eq_false (by omega : ¬ val m v = 1), Bool.false_or] at hok
      cases ok with
      | true =>
        refine Ev.step (fun k => ?_) (ih (j + 1) true v hs hok ho)
        rw [crossroadsref1_Unit.l2, if_pos (by omega), if_pos (by omega), hci, if_pos (by omega), if_pos (by omega), hv, hi, if_pos (by omega), if_pos (by omega), rd_at, if_pos (hz.1 hv0), if_pos rfl, wrap_succ hjl hl]
      | false =>
        refine Ev.step (fun k => ?_) (ih (j + 1) false v hs hok ho)
        rw [crossroadsref1_Unit.l2, if_pos (by omega), if_pos (by omega), hci, if_pos (by omega), if_pos (by omega), hv, hi, if_pos (by omega), if_pos (by omega), rd_at, if_pos (hz.1 hv0), if_neg (by decide), wrap_succ hjl hl]
    · rw [if_neg hv0] at ho
      have h1 := val_one hm h0 (fun h => hv0 (hz.2 h))
      cases ok with
      | true =>
        refine Ev.step (fun k => ?_) (ih (j + 1) true o hs (by rw [← hok]; simp) ho)
        rw [crossroadsref1_Unit.l2, if_pos (by omega), if_pos (by omega), hci, if_pos (by omega), if_pos (by omega), hv, hi, if_pos (by omega), if_pos (by omega), rd_at, if_neg (fun h => hv0 (hz.2 h)), if_pos rfl, wrap_succ hjl hl]
      | false =>
        rw [Bool.false_or, h1] at hok
        refine Ev.step (fun k => ?_) (ih (j + 1) _ o hs hok ho)
        rw [crossroadsref1_Unit.l2, if_pos (by omega), if_pos (by omega), hci, if_pos (by omega), if_pos (by omega), hv, hi, if_pos (by omega), if_pos (by omega), rd_at, if_neg (fun h => hv0 (hz.2 h)), if_neg (by decide), wrap_succ hjl hl]
theorem ref_pass {n : Int} (hn : n ≤ 65536) {f : List (List Int)} (hc : Came f) (hf : ∀ c ∈ f, ∀ v ∈ c, litOk n v = true) (r : List Int × Bool) :
    ∀ (s : List (List Int)) (i : Nat) (m : List Int) (change : Bool), f.drop i = s → Asg n m →
      (pass m change s = none → r = rsaid none) → (∀ m' b, pass m change s = some (m', b) → Ev (fun k => if b = true then (crossroadsref1_Unit.l0 k f m') else (some (m', false))) r) → Ev (fun k => crossroadsref1_Unit.l1 k f m change (i : Int)) r := by
  intro s
  induction s with
  | nil =>
    intro i m change hi hm _ hr
    refine Ev.step (fun k => ?_) (hr m change rfl)
    rw [crossroadsref1_Unit.l1, if_neg (drop_end hi)]
  | cons c s ih =>
    intro i m change hi hm hbad hr
    obtain ⟨hil, hci, hs⟩ := rdL_cons hi
    have hcm : c ∈ f := by rw [← List.take_append_drop i f, hi]; simp
    have hl := last_says m c 0
    rw [pass, hl] at hbad hr
    refine Ev.step (f := fun k => crossroadsref1_Unit.l2 k f m change i false 0 ((0 : Nat) : Int)) (fun k => ?_) (ref_l2 hn hc hf r m change i c hm hil hci hcm ?_ c 0 false 0 rfl (by simp) rfl)
    · rw [crossroadsref1_Unit.l1, if_pos (by omega)]; rfl
    · intro ok o hok ho
      rw [hok, ho] at hbad hr
      have hd : Ev (fun k => crossroadsref1_differ.f k c m) (differ m 0 c) := differ_is hn hm c (hc.rows c hcm).1 (hf c hcm) c 0 0 rfl
      have skip : (pass m change s = none → r = rsaid none) → (∀ m' b, pass m change s = some (m', b) → Ev (fun k => if b = true then (crossroadsref1_Unit.l0 k f m') else (some (m', false))) r) → Ev (fun k => crossroadsref1_Unit.j3 k f m change i o true) r := by
        intro h1 h2
        refine Ev.step (fun k => ?_) (ih (i + 1) m change hs hm h1 h2)
        rw [crossroadsref1_Unit.j3, if_pos rfl, wrap_succ hil hc.len]
      cases ok with
      | true =>
        simp only [Bool.true_or, if_true] at hbad hr
        refine Ev.congr (fun k => ?_) (skip hbad hr)
        rw [if_pos rfl]
      | false =>
        refine Ev.congr (f := fun k => (crossroadsref1_differ.f k c m).bind fun t155 => (crossroadsref1_Unit.j3 k f m change i o t155)) (fun k => by rw [if_neg (by decide)]) (Ev.bind hd ?_)
        rw [Bool.false_or] at hbad hr
        cases hdd : differ m 0 c with
        | true =>
          rw [hdd] at hbad hr
          simp only [if_true] at hbad hr
          exact skip hbad hr
        | false =>
          rw [hdd] at hbad hr
          simp only [Bool.false_eq_true, if_false] at hbad hr
          by_cases ho0 : o = 0
          · subst ho0
            simp at hbad
            rw [hbad]
            refine Ev.step (fun k => ?_) (Ev.now _)
            rw [crossroadsref1_Unit.j3, if_neg (by decide), if_pos rfl]; rfl
          · have hne : (o != 0) = true := by simpa using ho0
            rw [if_pos hne, if_neg ho0] at hbad hr
            have hlm : o ∈ c := by
              have h3 := last_lit m c 0
              rw [hl, hok, hdd, ho] at h3
              simp only [Bool.false_or, Bool.false_eq_true, if_false] at h3
              rcases h3 with h | h | h
              · exact absurd h ho0
              · exact absurd h ho0
              · exact h.1
            have hlo := hf c hcm o hlm
            refine Ev.step (fun k => ?_) (ih (i + 1) _ true hs (put_asg hm) hbad hr)
            rw [crossroadsref1_Unit.j3, if_neg (by decide), if_neg ho0, rput hn hm hlo (fun y => crossroadsref1_Unit.l1 k f y true (wrap64 ((i : Int) + 1))), wrap_succ hil hc.len]
theorem ref_l0 {n : Int} (hn : n ≤ 65536) {f : List (List Int)} (hc : Came f) (hf : ∀ c ∈ f, ∀ v ∈ c, litOk n v = true) {m : List Int} {r : Option (List Int)} (hr : Runs f m r) (hm : Asg n m) : Ev (fun k => crossroadsref1_Unit.l0 k f m) (rsaid r) := by
  induction hr with
  | bad hp =>
    refine Ev.step (fun k => ?_) (ref_pass hn hc hf (rsaid none) f 0 _ false rfl hm (fun _ => rfl) (fun m' b h => by rw [hp] at h; cases h))
    rw [crossroadsref1_Unit.l0]; rfl
  | done hp =>
    rename_i m0 m1
    refine Ev.step (fun k => ?_) (ref_pass hn hc hf (rsaid (some m1)) f 0 _ false rfl hm (fun h => by rw [hp] at h; cases h) (fun m' b h => ?_))
    · rw [crossroadsref1_Unit.l0]; rfl
    · rw [hp] at h
      obtain ⟨rfl, rfl⟩ := Prod.mk.inj (Option.some.inj h)
      refine Ev.congr (fun k => ?_) (Ev.now _)
      rw [if_neg (by decide)]; rfl
  | again hp _ ih =>
    rename_i m0 m1 r1 hr1
    have hm1 := (pass_ok hn f _ false _ true hm hf hp).1
    refine Ev.step (fun k => ?_) (ref_pass hn hc hf _ f 0 _ false rfl hm (fun h => by rw [hp] at h; cases h) (fun m' b h => ?_))
    · rw [crossroadsref1_Unit.l0]; rfl
    · rw [hp] at h
      obtain ⟨rfl, rfl⟩ := Prod.mk.inj (Option.some.inj h)
      refine Ev.congr (fun k => ?_) (ih hm1)
      rw [if_pos rfl]

/-- A literal holds under truth values. -/
def holdsB (sol : List Bool) (v : Int) : Bool := sol.getD (pos v) false == decide (v > 0)
def Agree (m : List Int) (sol : List Bool) : Prop := ∀ i, m.getD i 0 ≠ 0 → (m.getD i 0 == 1) = sol.getD i false
theorem last_unit (m : List Int) : ∀ (s : List Int) (one : Int), (∀ v ∈ s, v ≠ 0) → (last m one s).1 ≠ 0 → (one = 0 ∨ one = (last m one s).1) ∧ ∀ u ∈ s, u = (last m one s).1 ∨ (val m u ≠ 1 ∧ val m u ≠ 0)
  | [], one, _, h => ⟨.inr rfl, fun u hu => by cases hu⟩
  | v :: s, one, hnz, h => by
    have hnz' : ∀ u ∈ s, u ≠ 0 := fun u hu => hnz u (List.mem_cons_of_mem _ hu)
    rw [last] at h ⊢
    by_cases h1 : val m v = 1
    · rw [if_pos h1] at h; exact absurd rfl h
    · rw [if_neg h1] at h ⊢
      by_cases h0 : val m v = 0
      · rw [if_pos h0] at h ⊢
        by_cases ho : one = 0 ∨ one = v
        · rw [if_pos ho] at h ⊢
          obtain ⟨a, b⟩ := last_unit m s v hnz' h
          have hv : v = (last m v s).1 := by
            rcases a with a | a
            · exact absurd a (hnz v List.mem_cons_self)
            · exact a
          refine ⟨?_, fun u hu => ?_⟩
          · rcases ho with ho | ho
            · exact .inl ho
            · exact .inr (ho.trans hv)
          · rcases List.mem_cons.1 hu with rfl | hu
            · exact .inl hv
            · exact b u hu
        · rw [if_neg ho] at h; exact absurd rfl h
      · rw [if_neg h0] at h ⊢
        obtain ⟨a, b⟩ := last_unit m s one hnz' h
        refine ⟨a, fun u hu => ?_⟩
        rcases List.mem_cons.1 hu with rfl | hu
        · exact .inr ⟨h1, h0⟩
        · exact b u hu
theorem last_false (m : List Int) : ∀ (s : List Int) (one : Int), (∀ v ∈ s, v ≠ 0) → ¬ (last m one s).2 = true → one = 0 ∧ ∀ u ∈ s, val m u ≠ 1 ∧ val m u ≠ 0
  | [], one, _, h => ⟨by simpa [last] using h, fun u hu => by cases hu⟩
  | v :: s, one, hnz, h => by
    have hnz' : ∀ u ∈ s, u ≠ 0 := fun u hu => hnz u (List.mem_cons_of_mem _ hu)
    rw [last] at h
    by_cases h1 : val m v = 1
    · rw [if_pos h1] at h; exact absurd rfl h
    · rw [if_neg h1] at h
      by_cases h0 : val m v = 0
      · rw [if_pos h0] at h
        by_cases ho : one = 0 ∨ one = v
        · rw [if_pos ho] at h
          exact absurd (last_false m s v hnz' h).1 (hnz v List.mem_cons_self)
        · rw [if_neg ho] at h; exact absurd rfl h
      · rw [if_neg h0] at h
        obtain ⟨a, b⟩ := last_false m s one hnz' h
        refine ⟨a, fun u hu => ?_⟩
        rcases List.mem_cons.1 hu with rfl | hu
        · exact ⟨h1, h0⟩
        · exact b u hu
theorem lit_nz {n v : Int} (h : litOk n v = true) : v ≠ 0 := by
  intro e; subst e; simp [litOk, num0] at h
theorem pos_neg (v : Int) : pos (-v) = pos v := by
  unfold pos num0; split <;> split <;> omega
/-- A literal that has failed does not hold. -/
theorem failed_not {n v : Int} {m : List Int} {sol : List Bool} (hm : Asg n m) (ha : Agree m sol) (hv : v ≠ 0) (h1 : val m v ≠ 1) (h0 : val m v ≠ 0) : holdsB sol v = false := by
  have hr := hm.at (pos v)
  have hs := ha (pos v)
  unfold val at h1 h0
  unfold holdsB
  generalize m.getD (pos v) 0 = x at *
  by_cases hn : v < 0
  · rw [if_pos hn] at h1 h0
    have hx : x = 1 := by omega
    subst hx
    rw [← hs (by decide), decide_eq_false (by omega : ¬ v > 0)]; rfl
  · rw [if_neg hn] at h1 h0
    have hx : x = -1 := by omega
    subst hx
    rw [← hs (by decide), decide_eq_true (by omega : v > 0)]; rfl
theorem put_agree {n v : Int} {m : List Int} {sol : List Bool} (hn : n ≤ 65536) (hm : Asg n m) (hv : litOk n v = true) (ha : Agree m sol) (hh : holdsB sol v = true) : Agree (put m v) sol := by
  obtain ⟨hp, he, h1, h2, h3⟩ := pos_lt hn hm hv
  intro i hi
  unfold put at hi ⊢
  by_cases e : i = pos v
  · subst e
    unfold holdsB at hh
    have : (m.set (pos v) (if v < 0 then -1 else 1)).getD (pos v) 0 = if v < 0 then -1 else 1 := by simp [List.getD, hp]
    rw [this]
    by_cases hn0 : v < 0
    · rw [if_pos hn0]
      rw [decide_eq_false (by omega : ¬ v > 0)] at hh
      have : sol.getD (pos v) false = false := by simpa using hh
      rw [this]; rfl
    · rw [if_neg hn0]
      rw [decide_eq_true (by omega : v > 0)] at hh
      have : sol.getD (pos v) false = true := by simpa using hh
      rw [this]; rfl
  · have : (m.set (pos v) (if v < 0 then -1 else 1)).getD i 0 = m.getD i 0 := by simp [List.getD, List.getElem?_set_ne (fun h => e h.symm)]
    rw [this] at hi ⊢
    exact ha i hi
theorem pass_keeps {n : Int} (hn : n ≤ 65536) {sol : List Bool} : ∀ (s : List (List Int)) (m : List Int) (again : Bool), Asg n m → (∀ c ∈ s, ∀ v ∈ c, litOk n v = true) → (∀ c ∈ s, c.any (holdsB sol) = true) → Agree m sol →
    ∃ m' b, pass m again s = some (m', b) ∧ Agree m' sol
  | [], m, again, hm, _, _, ha => ⟨m, again, rfl, ha⟩
  | c :: s, m, again, hm, hs, hh, ha => by
    have hnz : ∀ v ∈ c, v ≠ 0 := fun v hv => lit_nz (hs c List.mem_cons_self v hv)
    obtain ⟨u, hu, hu2⟩ := List.any_eq_true.1 (hh c List.mem_cons_self)
    have h2 : (last m 0 c).2 = true := by
      apply Decidable.byContradiction
      intro h
      obtain ⟨a, b⟩ := (last_false m c 0 hnz h).2 u hu
      rw [failed_not hm ha (hnz u hu) a b] at hu2
      cases hu2
    rw [pass, if_pos h2]
    by_cases h1 : (last m 0 c).1 = 0
    · rw [if_pos h1]
      exact pass_keeps hn s m again hm (fun d hd => hs d (List.mem_cons_of_mem _ hd)) (fun d hd => hh d (List.mem_cons_of_mem _ hd)) ha
    · rw [if_neg h1]
      have hl : (last m 0 c).1 ∈ c := by
        rcases last_lit m c 0 with h | h | h
        · exact absurd h h1
        · exact absurd h h1
        · exact h.1
      have hue : u = (last m 0 c).1 := by
        rcases (last_unit m c 0 hnz h1).2 u hu with h | ⟨a, b⟩
        · exact h
        · rw [failed_not hm ha (hnz u hu) a b] at hu2; cases hu2
      rw [hue] at hu2
      exact pass_keeps hn s _ true (put_asg hm) (fun d hd => hs d (List.mem_cons_of_mem _ hd)) (fun d hd => hh d (List.mem_cons_of_mem _ hd)) (put_agree hn hm (hs c List.mem_cons_self _ hl) ha hu2)
theorem runs_keeps {n : Int} (hn : n ≤ 65536) {f : List (List Int)} (hf : ∀ c ∈ f, ∀ v ∈ c, litOk n v = true) {sol : List Bool} (hh : ∀ c ∈ f, c.any (holdsB sol) = true) {m : List Int} {r : Option (List Int)} (hr : Runs f m r) (hm : Asg n m) (ha : Agree m sol) : ∃ m', r = some m' ∧ Agree m' sol := by
  induction hr with
  | bad hp =>
    obtain ⟨m', b, e, _⟩ := pass_keeps hn f _ false hm hf hh ha
    rw [hp] at e; cases e
  | done hp =>
    obtain ⟨m', b, e, g⟩ := pass_keeps hn f _ false hm hf hh ha
    rw [hp] at e
    obtain ⟨rfl, _⟩ := Prod.mk.inj (Option.some.inj e)
    exact ⟨_, rfl, g⟩
  | again hp _ ih =>
    obtain ⟨m', b, e, g⟩ := pass_keeps hn f _ false hm hf hh ha
    rw [hp] at e
    obtain ⟨rfl, _⟩ := Prod.mk.inj (Option.some.inj e)
    exact ih (pass_ok hn f _ false _ true hm hf hp).1 g
theorem runs_asg {n : Int} (hn : n ≤ 65536) {f : List (List Int)} (hf : ∀ c ∈ f, ∀ v ∈ c, litOk n v = true) {m : List Int} {r : Option (List Int)} (hr : Runs f m r) (hm : Asg n m) : ∀ m', r = some m' → Asg n m' := by
  induction hr with
  | bad _ => intro _ h; cases h
  | done hp => intro m' h; cases h; exact (pass_ok hn f _ false _ false hm hf hp).1
  | again hp _ ih => intro m' h; exact ih (pass_ok hn f _ false _ true hm hf hp).1 m' h
theorem pos_abs (v : Int) : pos v = v.natAbs - 1 := by unfold pos num0; split <;> omega
theorem ok_lit {K : Nat} {v : Int} (h : D.okL K v) : litOk (K : Int) v = true := by
  have h1 := h.1
  have h2 := h.2
  unfold litOk num0
  rw [Bool.and_eq_true, decide_eq_true_eq, decide_eq_true_eq]
  split <;> omega
theorem holds_bits (a : List Bool) (v : Int) : holdsB a v = D.lit (S.bitsOf a) v := by
  unfold holdsB D.lit S.bitsOf
  rw [pos_abs]
theorem any_bits {a : List Bool} {F : List (List Int)} (h : D.satF (S.bitsOf a) F = true) : ∀ c ∈ F, c.any (holdsB a) = true := by
  rw [D.satF_iff] at h
  intro c hc
  have := h c hc
  unfold D.satC at this
  rw [List.any_eq_true] at this ⊢
  obtain ⟨x, hx, hl⟩ := this
  exact ⟨x, hx, by rw [holds_bits]; exact hl⟩
theorem sat_list {K : Nat} {F : List (List Int)} (hF : ∀ d ∈ F, ∀ x ∈ d, D.okL K x) {s : Nat → Bool} (h : D.satF s F = true) : D.satF (S.bitsOf ((List.range K).map fun i => s (i + 1))) F = true := by
  rw [D.satF_iff] at h ⊢
  intro c hc
  have := h c hc
  rw [D.satC_iff] at this ⊢
  obtain ⟨x, hx, hl⟩ := this
  have hk := hF c hc x hx
  have h1 := hk.1
  have h2 := hk.2
  refine ⟨x, hx, ?_⟩
  have e : S.bitsOf ((List.range K).map fun i => s (i + 1)) x.natAbs = s x.natAbs := by
    unfold S.bitsOf
    rw [List.getD_eq_getElem?_getD, List.getElem?_map, List.getElem?_range (by omega)]
    show s (x.natAbs - 1 + 1) = _
    rw [show x.natAbs - 1 + 1 = x.natAbs by omega]
  unfold D.lit at hl ⊢
  rw [e]
  exact hl
/-- What Unit may answer. -/
def UnitR (K : Nat) (F : List (List Int)) (u : List Int) (bad : Bool) : Prop :=
  (bad = true ∧ ∀ s, D.satF s F = false) ∨ (bad = false ∧ u.length = K ∧ (∀ i, -1 ≤ u.getD i 0 ∧ u.getD i 0 ≤ 1) ∧ ∀ a : List Bool, D.satF (S.bitsOf a) F = true → ∀ i, u.getD i 0 ≠ 0 → (u.getD i 0 == 1) = a.getD i false)
theorem unit17 {w : World} {A : Option Addr} {c : Nat} {F : List (List Int)} (h : S.In w A c F) {K : Nat} (hK : K ≤ 1000) (hF : ∀ d ∈ F, ∀ x ∈ d, D.okL K x) {A2 : Option Addr} {c2 : Nat} (hz : (Kd.int .i64).C w A2 K (List.replicate K 0)) (hc2 : K ≤ c2) :
    Calls Try.prog 17 #[.int .i64 (K : Int), .slice A F.length c, .slice A2 K c2] w fun e w' => ∃ v u bad, e = .returned (.tuple #[v, .bool bad]) ∧ Kd.R (Kd.int .i64) 3 w' w.heap.size (fun _ => True) v u ∧ Below w.heap.size w w' ∧ UnitR K F u bad := by
  have hf : ∀ c ∈ F, ∀ v ∈ c, litOk (K : Int) v = true := fun c hc v hv => ok_lit (hF c hc v hv)
  have hn : (K : Int) ≤ 65536 := by omega
  have hm : Asg (K : Int) (List.replicate K 0) := ⟨by rw [List.length_replicate], fun x hx => by rw [List.eq_of_mem_replicate hx]; omega⟩
  have h0 : ∀ i, (List.replicate K (0 : Int)).getD i 0 = 0 := fun i => by
    rw [List.getD_eq_getElem?_getD, List.getElem?_replicate]
    split <;> rfl
  obtain ⟨r, hr⟩ := runs_some hn hf _ _ rfl hm
  have hev := ref_l0 hn h.came hf hr hm
  have hev2 : Ev (fun k => crossroadsref1_Unit.f k (K : Int) F (List.replicate K 0)) (rsaid r) := Ev.congr (fun k => by
    unfold crossroadsref1_Unit.f
    rw [if_pos (by simp; omega), List.nil_append]) hev
  obtain ⟨k, hk⟩ := hev2.rounds
  have hc : Kd.C (Kd.int .i64) w A2 (List.replicate K (0 : Int)).length (List.replicate K 0) := by rw [List.length_replicate]; exact hz
  have hcall := crossroadsref1_Unit.calls k (K : Int) A c F A2 c2 (List.replicate K 0) (rsaid r).1 (rsaid r).2 w h.row h.cap hc (by rw [List.length_replicate]; exact hc2) hk
  rw [List.length_replicate] at hcall
  refine hcall.mono ?_
  rintro e w' ⟨v, he, hR, hb⟩
  refine ⟨v, _, _, he, hR, hb, ?_⟩
  cases r with
  | none =>
    refine .inl ⟨rfl, fun s => ?_⟩
    cases hs : D.satF s F with
    | false => rfl
    | true =>
      obtain ⟨m', e, _⟩ := runs_keeps hn hf (any_bits (sat_list hF hs)) hr hm (fun i hi => absurd (h0 i) hi)
      cases e
  | some m' =>
    have ha := runs_asg hn hf hr hm m' rfl
    refine .inr ⟨rfl, by have := ha.len; show m'.length = K; omega, ha.at, fun a hs i hi => ?_⟩
    obtain ⟨m2, e, hg⟩ := runs_keeps hn hf (any_bits hs) hr hm (fun i hi => absurd (h0 i) hi)
    injection e with e
    subst e
    exact hg i hi
end Go.Proofs.Ytnhpfdnhnocgjaa.Un
