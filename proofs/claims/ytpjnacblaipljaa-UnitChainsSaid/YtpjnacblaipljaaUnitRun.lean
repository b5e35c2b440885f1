/- unit.Run and the reference's Unit, in plain words: what one clause makes, what a pass makes; both come to the same. -/
import Derived.Test.YtpjnacblaipljaaUnitLem
namespace Go.Proofs.Ytpjnacblaipljaa.Lem
set_option linter.unusedVariables false
open Go.RowKit Go.Proofs.Ytpjnacblaipljaa.G Go.Proofs.Ytpjnacblaipljaa.P Go.Proofs.YtpjnacblaipljaaW.PrintWords Go.Proofs.YtpjnacblaipljaaW.PrintLast Go.Proofs.YtpjnacblaipljaaW.PrintMore

/-- Where a literal's variable stands. -/
def pos (v : Int) : Nat := (num v - 1).toNat
/-- A literal's truth: 1, 0 (open), -1. -/
def val (m : List Int) (v : Int) : Int := if v < 0 then -(m.getD (pos v) 0) else m.getD (pos v) 0
/-- All that is assigned is -1, 0 or 1, of n variables. -/
structure Asg (n : Int) (m : List Int) : Prop where
  len : (m.length : Int) = n
  rng : ∀ x ∈ m, -1 ≤ x ∧ x ≤ 1
theorem Asg.at {n : Int} {m : List Int} (h : Asg n m) (i : Nat) : -1 ≤ m.getD i 0 ∧ m.getD i 0 ≤ 1 := by
  by_cases hi : i < m.length
  · have := h.rng m[i] (List.getElem_mem hi)
    simpa [List.getD, hi] using this
  · simp [List.getD, List.getElem?_eq_none (by omega : m.length ≤ i)]
theorem ok_num {n v : Int} (h : litOk n v = true) : 1 ≤ num v ∧ num v ≤ n := by
  unfold litOk at h
  simpa using h
theorem pos_lt {n v : Int} {m : List Int} (hn : n ≤ 65536) (hm : Asg n m) (h : litOk n v = true) : pos v < m.length ∧ ((pos v : Nat) : Int) = num v - 1 ∧ -65536 ≤ v ∧ v ≤ 65536 ∧ v ≠ 0 := by
  obtain ⟨h1, h2⟩ := ok_num h
  have := hm.len
  have e : ((pos v : Nat) : Int) = num v - 1 := by unfold pos; omega
  refine ⟨by omega, e, ?_, ?_, ?_⟩ <;> unfold num at h1 h2 <;> split at h1 <;> split at h2 <;> omega
theorem rd_at (m : List Int) (i : Nat) : rd m (i : Int) = m.getD i 0 := by simp [rd]
theorem idx_neg {v : Int} (h0 : -65536 ≤ v) (h : v < 0) : wrap64 (wrap64 (-v) - 1) = num v - 1 := by unfold num wrap64; rw [if_pos h]; omega
theorem idx_pos {v : Int} (h0 : v ≤ 65536) (h : ¬ v < 0) (h2 : v ≠ 0) : wrap64 (v - 1) = num v - 1 := by unfold num wrap64; rw [if_neg h]; omega
theorem idx_mx {v : Int} (h0 : -65536 ≤ v) (h1 : v ≤ 65536) (h2 : v ≠ 0) : wrap64 (mx v (wrap64 (-v)) - 1) = num v - 1 := by
  have e : wrap64 (-v) = -v := by unfold wrap64; omega
  rw [e]; unfold mx num wrap64
  split <;> split <;> omega

theorem way_is {n v : Int} {m : List Int} (hn : n ≤ 65536) (hm : Asg n m) (h : litOk n v = true) : unit_way.f v m = some (val m v) := by
  obtain ⟨hp, he, h1, h2, h3⟩ := pos_lt hn hm h
  have hr := hm.at (pos v)
  unfold unit_way.f val
  by_cases hv : v < 0
  · rw [if_pos hv, if_pos hv, idx_neg h1 hv, ← he, if_pos (by omega), if_pos (by omega), rd_at]
    congr 1; unfold wrap64; omega
  · rw [if_neg hv, if_neg hv, idx_pos h2 hv h3, ← he, if_pos (by omega), if_pos (by omega), rd_at]

/-- A clause's one open literal; 0: it has more, or holds; false: nothing is left. -/
def last (m : List Int) : Int → List Int → Int × Bool
  | one, [] => (one, one != 0)
  | one, v :: c => if val m v = 1 then (0, true) else if val m v = 0 then (if one = 0 ∨ one = v then last m v c else (0, true)) else last m one c

theorem last_is {n : Int} {m : List Int} (hn : n ≤ 65536) (hm : Asg n m) (c : List Int) (hl : c.length ≤ 9223372036854775807) (hc : ∀ v ∈ c, litOk n v = true) :
    ∀ (s : List Int) (j : Nat) (one : Int), c.drop j = s → Ev (fun k => unit_last.l0 k m one c c.length (j : Int)) (last m one s) := by
  intro s
  induction s with
  | nil =>
    intro j one hj
    refine Ev.step (fun k => ?_) (Ev.now _)
    rw [unit_last.l0, if_neg (drop_end hj)]; rfl
  | cons v s ih =>
    intro j one hj
    obtain ⟨hjl, hv, hs⟩ := rd_cons hj
    have hvm : v ∈ c := by rw [← List.take_append_drop j c, hj]; simp
    have hw := way_is hn hm (hc v hvm)
    rw [last]
    by_cases h1 : val m v = 1
    · rw [if_pos h1]
      refine Ev.step (fun k => ?_) (Ev.now _)
      rw [unit_last.l0, if_pos (by omega), if_pos (by omega), if_pos (by omega), hv, hw, Option.bind_some, if_pos h1]
    · rw [if_neg h1]
      by_cases h0 : val m v = 0
      · rw [if_pos h0]
        by_cases ho : one = 0
        · rw [if_pos (.inl ho)]
          refine Ev.step (fun k => ?_) (ih (j + 1) v hs)
          rw [unit_last.l0, if_pos (by omega), if_pos (by omega), if_pos (by omega), hv, hw, Option.bind_some, if_neg h1, if_pos h0, if_pos ho, wrap_succ hjl hl]
        · by_cases ho2 : one = v
          · rw [if_pos (.inr ho2)]
            refine Ev.step (fun k => ?_) (ih (j + 1) v hs)
            rw [unit_last.l0, if_pos (by omega), if_pos (by omega), if_pos (by omega), hv, hw, Option.bind_some, if_neg h1, if_pos h0, if_neg ho, if_pos ho2, wrap_succ hjl hl]
          · rw [if_neg (fun h => h.elim ho ho2)]
            refine Ev.step (fun k => ?_) (Ev.now _)
            rw [unit_last.l0, if_pos (by omega), if_pos (by omega), if_pos (by omega), hv, hw, Option.bind_some, if_neg h1, if_pos h0, if_neg ho, if_neg ho2]
      · rw [if_neg h0]
        refine Ev.step (fun k => ?_) (ih (j + 1) one hs)
        rw [unit_last.l0, if_pos (by omega), if_pos (by omega), if_pos (by omega), hv, hw, Option.bind_some, if_neg h1, if_neg h0, wrap_succ hjl hl]

/-- Its literal is 0, or an open one of the clause. -/
theorem last_lit (m : List Int) : ∀ (c : List Int) (one : Int), (last m one c).1 = 0 ∨ (last m one c).1 = one ∨ ((last m one c).1 ∈ c ∧ val m (last m one c).1 = 0)
  | [], one => .inr (.inl rfl)
  | v :: c, one => by
    rw [last]
    by_cases h1 : val m v = 1
    · rw [if_pos h1]; exact .inl rfl
    · rw [if_neg h1]
      by_cases h0 : val m v = 0
      · rw [if_pos h0]
        by_cases ho : one = 0 ∨ one = v
        · rw [if_pos ho]
          rcases last_lit m c v with h | h | ⟨h, h2⟩
          · exact .inl h
          · exact .inr (.inr ⟨by rw [h]; simp, by rw [h]; exact h0⟩)
          · exact .inr (.inr ⟨List.mem_cons_of_mem _ h, h2⟩)
        · rw [if_neg ho]; exact .inl rfl
      · rw [if_neg h0]
        rcases last_lit m c one with h | h | ⟨h, h2⟩
        · exact .inl h
        · exact .inr (.inl h)
        · exact .inr (.inr ⟨List.mem_cons_of_mem _ h, h2⟩)

/-- A literal made to hold. -/
def put (m : List Int) (v : Int) : List Int := m.set (pos v) (if v < 0 then -1 else 1)
/-- One pass over clauses: none: nothing is left of one; else what is assigned, and whether something was. -/
def pass : List Int → Bool → List (List Int) → Option (List Int × Bool)
  | m, again, [] => some (m, again)
  | m, again, c :: s => if (last m 0 c).2 = true then (if (last m 0 c).1 = 0 then pass m again s else pass (put m (last m 0 c).1) true s) else none

def zeros (m : List Int) : Nat := m.count 0
theorem put_asg {n v : Int} {m : List Int} (hm : Asg n m) : Asg n (put m v) := by
  unfold put
  refine ⟨by rw [List.length_set]; exact hm.len, fun x hx => ?_⟩
  rcases List.mem_or_eq_of_mem_set hx with h | h
  · exact hm.rng x h
  · subst h; split <;> omega
theorem put_zeros {n v : Int} {m : List Int} (hn : n ≤ 65536) (hm : Asg n m) (hv : litOk n v = true) (h0 : val m v = 0) : zeros (put m v) < zeros m := by
  obtain ⟨hp, he, h1, h2, h3⟩ := pos_lt hn hm hv
  have hz : m[pos v] = 0 := by
    have : m.getD (pos v) 0 = 0 := by unfold val at h0; split at h0 <;> omega
    simpa [List.getD, hp] using this
  unfold zeros put
  rw [List.count_set hp, hz]
  have hc : 0 < m.count 0 := List.count_pos_iff.2 (by rw [← hz]; exact List.getElem_mem hp)
  have e : ((if v < 0 then (-1 : Int) else 1) == 0) = false := by split <;> decide
  rw [e]; simp; omega

theorem pass_ok {n : Int} (hn : n ≤ 65536) : ∀ (s : List (List Int)) (m : List Int) (again : Bool) (m' : List Int) (again' : Bool), Asg n m → (∀ c ∈ s, ∀ v ∈ c, litOk n v = true) → pass m again s = some (m', again') →
    Asg n m' ∧ zeros m' ≤ zeros m ∧ (again' = true → again = true ∨ zeros m' < zeros m) ∧ (again' = false → m' = m)
  | [], m, again, m', again', hm, _, h => by
    rw [pass] at h
    obtain ⟨rfl, rfl⟩ := Prod.mk.inj (Option.some.inj h)
    exact ⟨hm, Nat.le_refl _, fun h => .inl h, fun _ => rfl⟩
  | c :: s, m, again, m', again', hm, hs, h => by
    rw [pass] at h
    by_cases h2 : (last m 0 c).2 = true
    · rw [if_pos h2] at h
      by_cases h1 : (last m 0 c).1 = 0
      · rw [if_pos h1] at h
        exact pass_ok hn s m again m' again' hm (fun d hd => hs d (List.mem_cons_of_mem _ hd)) h
      · rw [if_neg h1] at h
        have hl : (last m 0 c).1 ∈ c ∧ val m (last m 0 c).1 = 0 := by
          rcases last_lit m c 0 with h | h | h
          · exact absurd h h1
          · exact absurd h h1
          · exact h
        have hz := put_zeros hn hm (hs c (List.mem_cons_self) _ hl.1) hl.2
        obtain ⟨a, b, d, e⟩ := pass_ok hn s _ true m' again' (put_asg hm) (fun d hd => hs d (List.mem_cons_of_mem _ hd)) h
        refine ⟨a, by omega, fun _ => .inr (by omega), fun ha => ?_⟩
        -- 'again' was true on the way, and stays
        exfalso
        have : ∀ (s : List (List Int)) (m : List Int) (m' : List Int) (b : Bool), pass m true s = some (m', b) → b = true := by
          intro s
          induction s with
          | nil => intro m m' b hb; rw [pass] at hb; exact ((Prod.mk.inj (Option.some.inj hb)).2).symm
          | cons c s ih =>
            intro m m' b hb
            rw [pass] at hb
            split at hb
            · split at hb
              · exact ih _ _ _ hb
              · exact ih _ _ _ hb
            · cases hb
        rw [this s _ m' again' h] at ha
        cases ha
    · rw [if_neg h2] at h; cases h

/-- All passes, till nothing more follows. -/
inductive Runs (f : List (List Int)) : List Int → Option (List Int) → Prop
  | bad {m} : pass m false f = none → Runs f m none
  | done {m m'} : pass m false f = some (m', false) → Runs f m (some m')
  | again {m m' r} : pass m false f = some (m', true) → Runs f m' r → Runs f m r

theorem runs_some {n : Int} (hn : n ≤ 65536) {f : List (List Int)} (hf : ∀ c ∈ f, ∀ v ∈ c, litOk n v = true) : ∀ (z : Nat) (m : List Int), zeros m = z → Asg n m → ∃ r, Runs f m r := by
  intro z
  induction z using Nat.strongRecOn with
  | _ z ih =>
    intro m hz hm
    match hp : pass m false f with
    | none => exact ⟨none, .bad hp⟩
    | some (m', false) => exact ⟨some m', .done hp⟩
    | some (m', true) =>
      obtain ⟨a, b, d, _⟩ := pass_ok hn f m false m' true hm hf hp
      have hlt : zeros m' < zeros m := by rcases d rfl with h | h; cases h; exact h
      obtain ⟨r, hr⟩ := ih (zeros m') (by omega) m' rfl a
      exact ⟨r, .again hp hr⟩

/-- What Run answers. -/
def said : Option (List Int) → List Int × Bool × Int
  | none => ([], true, 0)
  | some m => (m, false, 0)

theorem set_is {n v : Int} {m : List Int} (hn : n ≤ 65536) (hm : Asg n m) (h : litOk n v = true) : (v > 0 → 0 ≤ wrap64 (v - 1) ∧ wrap64 (v - 1) < m.length ∧ m.set (wrap64 (v - 1)).toNat 1 = put m v) ∧
    (v < 0 → 0 ≤ wrap64 (wrap64 (-v) - 1) ∧ wrap64 (wrap64 (-v) - 1) < m.length ∧ m.set (wrap64 (wrap64 (-v) - 1)).toNat (-1) = put m v) := by
  obtain ⟨hp, he, h1, h2, h3⟩ := pos_lt hn hm h
  constructor
  · intro hv
    rw [idx_pos h2 (by omega) h3]
    refine ⟨by omega, by omega, ?_⟩
    unfold put pos
    rw [if_neg (by omega)]
  · intro hv
    rw [idx_neg h1 hv]
    refine ⟨by omega, by omega, ?_⟩
    unfold put pos
    rw [if_pos hv]

theorem pass_run {n : Int} (hn : n ≤ 65536) {f : List (List Int)} (hc : Came f) (hf : ∀ c ∈ f, ∀ v ∈ c, litOk n v = true) (r : List Int × Bool × Int) :
    ∀ (s : List (List Int)) (i : Nat) (m : List Int) (again : Bool), f.drop i = s → Asg n m →
      (pass m again s = none → r = said none) → (∀ m' b, pass m again s = some (m', b) → Ev (fun k => unit_Run.l0 k f m' b) r) → Ev (fun k => unit_Run.l1 k f m again f f.length (i : Int)) r := by
  intro s
  induction s with
  | nil =>
    intro i m again hi hm _ hr
    refine Ev.step (fun k => ?_) (hr m again rfl)
    rw [unit_Run.l1, if_neg (drop_end hi)]
  | cons c s ih =>
    intro i m again hi hm hbad hr
    obtain ⟨hil, hci, hs⟩ := rdL_cons hi
    have hcm : c ∈ f := by rw [← List.take_append_drop i f, hi]; simp
    have hl := last_is hn hm c (hc.rows c hcm).1 (hf c hcm) c 0 0 rfl
    have hl' : Ev (fun k => unit_last.f k c m) (last m 0 c) := hl
    rw [pass] at hbad hr
    refine Ev.step (f := fun k => (unit_last.f k c m).bind fun bt114 => (if bt114.2 = true then (if bt114.1 > 0 then (if 0 ≤ (wrap64 (bt114.1 - 1)) then (if (wrap64 (bt114.1 - 1)) < (m.length : Int) then (unit_Run.l1 k f (m.set ((wrap64 (bt114.1 - 1)) : Int).toNat 1) true f f.length ((i + 1 : Nat) : Int)) else (none)) else (none)) else (if bt114.1 < 0 then (if 0 ≤ (wrap64 ((wrap64 (-bt114.1)) - 1)) then (if (wrap64 ((wrap64 (-bt114.1)) - 1)) < (m.length : Int) then (unit_Run.l1 k f (m.set ((wrap64 ((wrap64 (-bt114.1)) - 1)) : Int).toNat (-1)) true f f.length ((i + 1 : Nat) : Int)) else (none)) else (none)) else (unit_Run.l1 k f m again f f.length ((i + 1 : Nat) : Int)))) else (some (([] : List Int), true, 0)))) (fun k => ?_) (Ev.bind hl' ?_)
    · rw [unit_Run.l1, if_pos (by omega), if_pos (by omega), if_pos (by omega), hci, wrap_succ hil hc.len]
    · by_cases h2 : (last m 0 c).2 = true
      · rw [if_pos h2] at hbad hr
        by_cases h1 : (last m 0 c).1 = 0
        · rw [if_pos h1] at hbad hr
          refine Ev.congr (fun k => ?_) (ih (i + 1) m again hs hm hbad hr)
          rw [if_pos h2, if_neg (by omega), if_neg (by omega)]
        · rw [if_neg h1] at hbad hr
          have hlm : (last m 0 c).1 ∈ c := by
            rcases last_lit m c 0 with h | h | h
            · exact absurd h h1
            · exact absurd h h1
            · exact h.1
          obtain ⟨g1, g2⟩ := set_is hn hm (hf c hcm _ hlm)
          refine Ev.congr (fun k => ?_) (ih (i + 1) _ true hs (put_asg hm) hbad hr)
          rw [if_pos h2]
          by_cases hp : (last m 0 c).1 > 0
          · obtain ⟨a, b, d⟩ := g1 hp
            rw [if_pos hp, if_pos a, if_pos b, d]
          · obtain ⟨a, b, d⟩ := g2 (by omega)
            rw [if_neg hp, if_pos (by omega : (last m 0 c).1 < 0), if_pos a, if_pos b, d]
      · rw [if_neg h2] at hbad
        rw [hbad rfl]
        refine Ev.congr (fun k => ?_) (Ev.now _)
        rw [if_neg h2]; rfl

theorem run_l0 {n : Int} (hn : n ≤ 65536) {f : List (List Int)} (hc : Came f) (hf : ∀ c ∈ f, ∀ v ∈ c, litOk n v = true) {m : List Int} {r : Option (List Int)} (hr : Runs f m r) (hm : Asg n m) : Ev (fun k => unit_Run.l0 k f m true) (said r) := by
  induction hr with
  | bad hp =>
    refine Ev.step (fun k => ?_) (pass_run hn hc hf (said none) f 0 _ false rfl hm (fun _ => rfl) (fun m' b h => by rw [hp] at h; cases h))
    rw [unit_Run.l0, if_pos rfl]; rfl
  | done hp =>
    rename_i m0 m1
    refine Ev.step (fun k => ?_) (pass_run hn hc hf (said (some m1)) f 0 _ false rfl hm (fun h => by rw [hp] at h; cases h) (fun m' b h => ?_))
    · rw [unit_Run.l0, if_pos rfl]; rfl
    · rw [hp] at h
      obtain ⟨rfl, rfl⟩ := Prod.mk.inj (Option.some.inj h)
      refine Ev.step (fun k => ?_) (Ev.now _)
      rw [unit_Run.l0, if_neg (by decide)]; rfl
  | again hp _ ih =>
    rename_i m0 m1 r1 hr1
    have hm1 := (pass_ok hn f _ false _ true hm hf hp).1
    refine Ev.step (fun k => ?_) (pass_run hn hc hf _ f 0 _ false rfl hm (fun h => by rw [hp] at h; cases h) (fun m' b h => ?_))
    · rw [unit_Run.l0, if_pos rfl]; rfl
    · rw [hp] at h
      obtain ⟨rfl, rfl⟩ := Prod.mk.inj (Option.some.inj h)
      exact ih hm1

/-- What may be handed to Run. -/
def fineB (n : Int) (f : List (List Int)) (m : List Int) : Bool := mayB n f && (decide ((m.length : Int) = n) && !(m.any pred27))
theorem fine_asg {n : Int} {f : List (List Int)} {m : List Int} (h : fineB n f m = true) : 0 ≤ n ∧ n ≤ 65536 ∧ (∀ c ∈ f, ∀ v ∈ c, litOk n v = true) ∧ Asg n m := by
  unfold fineB mayB at h
  simp only [Bool.and_eq_true, decide_eq_true_eq, List.all_eq_true, Bool.not_eq_true'] at h
  obtain ⟨⟨h0, h1, h2⟩, h3, h4⟩ := h
  refine ⟨h0, h1, h2, h3, fun x hx => ?_⟩
  have := List.any_eq_false.1 h4 x hx
  unfold pred27 at this
  simp at this
  omega

theorem run_is {n : Int} {f : List (List Int)} {m : List Int} (hc : Came f) (hml : m.length * 8 ≤ 140737488351232) {r : Option (List Int)} (h : fineB n f m = true) (hr : Runs f m r) : Ev (fun k => unit_Run.f k n f m) (said r) := by
  obtain ⟨h0, h1, h2, h3⟩ := fine_asg h
  have hmay : mayB n f = true := by unfold fineB at h; simp only [Bool.and_eq_true] at h; exact h.1
  have hcf : slices_ContainsFunc_int_int.f m = some false := by
    unfold fineB at h
    simp only [Bool.and_eq_true, Bool.not_eq_true'] at h
    unfold slices_ContainsFunc_int_int.f
    rw [h.2.2]
  have e := may_is n f hc
  rw [hmay] at e
  unfold unit_Run.f
  refine Ev.bind e ?_
  refine Ev.step (fun k => ?_) (run_l0 h1 hc h2 hr h3)
  rw [if_pos rfl, if_pos h3.len, hcf, Option.bind_some, unit_Run.j0, if_neg (by decide)]
  have : slices_Clone_int_int.f m = some m := by unfold slices_Clone_int_int.f; rw [if_pos (by omega)]
  rw [this, Option.bind_some]
theorem run_not {n : Int} {f : List (List Int)} {m : List Int} (hc : Came f) (h : fineB n f m = false) : Ev (fun k => unit_Run.f k n f m) ([], false, 1) := by
  have e := may_is n f hc
  unfold unit_Run.f
  refine Ev.bind e ?_
  refine Ev.step (f := fun _ => some ([], false, 1)) (fun k => ?_) (Ev.now _)
  unfold fineB at h
  by_cases hmay : mayB n f = true
  · rw [if_pos hmay]
    rw [hmay, Bool.true_and] at h
    by_cases hl : (m.length : Int) = n
    · rw [if_pos hl]
      rw [decide_eq_true hl, Bool.true_and] at h
      have : slices_ContainsFunc_int_int.f m = some true := by
        unfold slices_ContainsFunc_int_int.f
        simp only [Bool.not_eq_false'] at h
        rw [h]
      rw [this, Option.bind_some, unit_Run.j0, if_pos rfl]
    · rw [if_neg hl, unit_Run.j0, if_pos rfl]
  · rw [if_neg hmay, unit_Run.j0, if_pos rfl]
end Go.Proofs.Ytpjnacblaipljaa.Lem
