/- What follows takes no solution away; what is closed. -/
import Derived.Test.YtpjnacblaipljaaUnitRef
namespace Go.Proofs.Ytpjnacblaipljaa.Lem
set_option linter.unusedVariables false
open Go.RowKit Go.Proofs.Ytpjnacblaipljaa.G Go.Proofs.Ytpjnacblaipljaa.P Go.Proofs.YtpjnacblaipljaaW.PrintWords Go.Proofs.YtpjnacblaipljaaW.PrintLast Go.Proofs.YtpjnacblaipljaaW.PrintMore

/-- A literal holds under truth values. -/
def holdsB (sol : List Bool) (v : Int) : Bool := sol.getD (pos v) false == decide (v > 0)
def evalB (f : List (List Int)) (sol : List Bool) : Bool := f.all fun c => c.any (holdsB sol)
def Agree (m : List Int) (sol : List Bool) : Prop := ∀ i, m.getD i 0 ≠ 0 → (m.getD i 0 == 1) = sol.getD i false

theorem last_unit (m : List Int) : ∀ (s : List Int) (one : Int), (∀ v ∈ s, v ≠ 0) → (last m one s).1 ≠ 0 → (one = 0 ∨ one = (last m one s).1) ∧ ∀ u ∈ s, u = (last m one s).1 ∨ (val m u ≠ 1 ∧ val m u ≠ 0)
  | [], one, _, h => ⟨.inr rfl, fun u hu => by cases hu⟩
  | v :: s, one, hnz, h => by
    have hnz' : ∀ u ∈ s, u ≠ 0 := fun u hu => hnz u (List.mem_cons_of_mem _ hu)
    rw [last] at h ⊢
    by_cases h1 : val m v = 1
    · rw [if_pos h1] at h; exact absurd rfl h
    · rw [if_neg h1] at h ⊢
      by_cases h0 : val m v = 0
      · rw [if_pos h0] at h ⊢
        by_cases ho : one = 0 ∨ one = v
        · rw [if_pos ho] at h ⊢
          obtain ⟨a, b⟩ := last_unit m s v hnz' h
          have hv : v = (last m v s).1 := by
            rcases a with a | a
            · exact absurd a (hnz v List.mem_cons_self)
            · exact a
          refine ⟨?_, fun u hu => ?_⟩
          · rcases ho with ho | ho
            · exact .inl ho
            · exact .inr (ho.trans hv)
          · rcases List.mem_cons.1 hu with rfl | hu
            · exact .inl hv
            · exact b u hu
        · rw [if_neg ho] at h; exact absurd rfl h
      · rw [if_neg h0] at h ⊢
        obtain ⟨a, b⟩ := last_unit m s one hnz' h
        refine ⟨a, fun u hu => ?_⟩
        rcases List.mem_cons.1 hu with rfl | hu
        · exact .inr ⟨h1, h0⟩
        · exact b u hu
theorem last_false (m : List Int) : ∀ (s : List Int) (one : Int), (∀ v ∈ s, v ≠ 0) → ¬ (last m one s).2 = true → one = 0 ∧ ∀ u ∈ s, val m u ≠ 1 ∧ val m u ≠ 0
  | [], one, _, h => ⟨by simpa [last] using h, fun u hu => by cases hu⟩
  | v :: s, one, hnz, h => by
    have hnz' : ∀ u ∈ s, u ≠ 0 := fun u hu => hnz u (List.mem_cons_of_mem _ hu)
    rw [last] at h
    by_cases h1 : val m v = 1
    · rw [if_pos h1] at h; exact absurd rfl h
    · rw [if_neg h1] at h
      by_cases h0 : val m v = 0
      · rw [if_pos h0] at h
        by_cases ho : one = 0 ∨ one = v
        · rw [if_pos ho] at h
          exact absurd (last_false m s v hnz' h).1 (hnz v List.mem_cons_self)
        · rw [if_neg ho] at h; exact absurd rfl h
      · rw [if_neg h0] at h
        obtain ⟨a, b⟩ := last_false m s one hnz' h
        refine ⟨a, fun u hu => ?_⟩
        rcases List.mem_cons.1 hu with rfl | hu
        · exact ⟨h1, h0⟩
        · exact b u hu

theorem lit_nz {n v : Int} (h : litOk n v = true) : v ≠ 0 := by
  intro e; subst e; simp [litOk, num] at h
theorem pos_neg (v : Int) : pos (-v) = pos v := by
  unfold pos num; split <;> split <;> omega
/-- A literal that has failed does not hold. -/
theorem failed_not {n v : Int} {m : List Int} {sol : List Bool} (hm : Asg n m) (ha : Agree m sol) (hv : v ≠ 0) (h1 : val m v ≠ 1) (h0 : val m v ≠ 0) : holdsB sol v = false := by
  have hr := hm.at (pos v)
  have hs := ha (pos v)
  unfold val at h1 h0
  unfold holdsB
  generalize m.getD (pos v) 0 = x at *
  by_cases hn : v < 0
  · rw [if_pos hn] at h1 h0
    have hx : x = 1 := by omega
    subst hx
    rw [← hs (by decide), decide_eq_false (by omega : ¬ v > 0)]; rfl
  · rw [if_neg hn] at h1 h0
    have hx : x = -1 := by omega
    subst hx
    rw [← hs (by decide), decide_eq_true (by omega : v > 0)]; rfl
theorem put_agree {n v : Int} {m : List Int} {sol : List Bool} (hn : n ≤ 65536) (hm : Asg n m) (hv : litOk n v = true) (ha : Agree m sol) (hh : holdsB sol v = true) : Agree (put m v) sol := by
  obtain ⟨hp, he, h1, h2, h3⟩ := pos_lt hn hm hv
  intro i hi
  unfold put at hi ⊢
  by_cases e : i = pos v
  · subst e
    unfold holdsB at hh
    have : (m.set (pos v) (if v < 0 then -1 else 1)).getD (pos v) 0 = if v < 0 then -1 else 1 := by simp [List.getD, hp]
    rw [this]
    by_cases hn0 : v < 0
    · rw [if_pos hn0]
      rw [decide_eq_false (by omega : ¬ v > 0)] at hh
      have : sol.getD (pos v) false = false := by simpa using hh
      rw [this]; rfl
    · rw [if_neg hn0]
      rw [decide_eq_true (by omega : v > 0)] at hh
      have : sol.getD (pos v) false = true := by simpa using hh
      rw [this]; rfl
  · have : (m.set (pos v) (if v < 0 then -1 else 1)).getD i 0 = m.getD i 0 := by simp [List.getD, List.getElem?_set_ne (fun h => e h.symm)]
    rw [this] at hi ⊢
    exact ha i hi

theorem pass_keeps {n : Int} (hn : n ≤ 65536) {sol : List Bool} : ∀ (s : List (List Int)) (m : List Int) (again : Bool), Asg n m → (∀ c ∈ s, ∀ v ∈ c, litOk n v = true) → (∀ c ∈ s, c.any (holdsB sol) = true) → Agree m sol →
    ∃ m' b, pass m again s = some (m', b) ∧ Agree m' sol
  | [], m, again, hm, _, _, ha => ⟨m, again, rfl, ha⟩
  | c :: s, m, again, hm, hs, hh, ha => by
    have hnz : ∀ v ∈ c, v ≠ 0 := fun v hv => lit_nz (hs c List.mem_cons_self v hv)
    obtain ⟨u, hu, hu2⟩ := List.any_eq_true.1 (hh c List.mem_cons_self)
    have h2 : (last m 0 c).2 = true := by
      apply Decidable.byContradiction
      intro h
      obtain ⟨a, b⟩ := (last_false m c 0 hnz h).2 u hu
      rw [failed_not hm ha (hnz u hu) a b] at hu2
      cases hu2
    rw [pass, if_pos h2]
    by_cases h1 : (last m 0 c).1 = 0
    · rw [if_pos h1]
      exact pass_keeps hn s m again hm (fun d hd => hs d (List.mem_cons_of_mem _ hd)) (fun d hd => hh d (List.mem_cons_of_mem _ hd)) ha
    · rw [if_neg h1]
      have hl : (last m 0 c).1 ∈ c := by
        rcases last_lit m c 0 with h | h | h
        · exact absurd h h1
        · exact absurd h h1
        · exact h.1
      have hue : u = (last m 0 c).1 := by
        rcases (last_unit m c 0 hnz h1).2 u hu with h | ⟨a, b⟩
        · exact h
        · rw [failed_not hm ha (hnz u hu) a b] at hu2; cases hu2
      rw [hue] at hu2
      exact pass_keeps hn s _ true (put_asg hm) (fun d hd => hs d (List.mem_cons_of_mem _ hd)) (fun d hd => hh d (List.mem_cons_of_mem _ hd)) (put_agree hn hm (hs c List.mem_cons_self _ hl) ha hu2)

theorem runs_keeps {n : Int} (hn : n ≤ 65536) {f : List (List Int)} (hf : ∀ c ∈ f, ∀ v ∈ c, litOk n v = true) {sol : List Bool} (he : evalB f sol = true) {m : List Int} {r : Option (List Int)} (hr : Runs f m r) (hm : Asg n m) (ha : Agree m sol) : ∃ m', r = some m' ∧ Agree m' sol := by
  have hh : ∀ c ∈ f, c.any (holdsB sol) = true := List.all_eq_true.1 he
  induction hr with
  | bad hp =>
    obtain ⟨m', b, e, _⟩ := pass_keeps hn f _ false hm hf hh ha
    rw [hp] at e; cases e
  | done hp =>
    obtain ⟨m', b, e, g⟩ := pass_keeps hn f _ false hm hf hh ha
    rw [hp] at e
    obtain ⟨rfl, _⟩ := Prod.mk.inj (Option.some.inj e)
    exact ⟨_, rfl, g⟩
  | again hp _ ih =>
    obtain ⟨m', b, e, g⟩ := pass_keeps hn f _ false hm hf hh ha
    rw [hp] at e
    obtain ⟨rfl, _⟩ := Prod.mk.inj (Option.some.inj e)
    exact ih (pass_ok hn f _ false _ true hm hf hp).1 g

theorem runs_asg {n : Int} (hn : n ≤ 65536) {f : List (List Int)} (hf : ∀ c ∈ f, ∀ v ∈ c, litOk n v = true) {m : List Int} {r : Option (List Int)} (hr : Runs f m r) (hm : Asg n m) : ∀ m', r = some m' → Asg n m' := by
  induction hr with
  | bad _ => intro _ h; cases h
  | done hp => intro m' h; cases h; exact (pass_ok hn f _ false _ false hm hf hp).1
  | again hp _ ih => intro m' h; exact ih (pass_ok hn f _ false _ true hm hf hp).1 m' h

/-! ### the reference's Eval -/
theorem holds_is {n v : Int} {sol : List Bool} (hn : n ≤ 65536) (hs : (sol.length : Int) = n) (h : litOk n v = true) : crossroadsref1_Holds.f v sol = some (holdsB sol v) := by
  obtain ⟨h1, h2⟩ := ok_num h
  have hv : -65536 ≤ v ∧ v ≤ 65536 := by unfold num at h1 h2; split at h1 <;> split at h2 <;> omega
  have e : mx v (wrap64 (-v)) = num v := by
    have : wrap64 (-v) = -v := by unfold wrap64; omega
    rw [this]; unfold mx num; split <;> split <;> omega
  have e2 : wrap64 (num v - 1) = ((pos v : Nat) : Int) := by unfold pos wrap64; omega
  have hp : pos v < sol.length := by unfold pos; omega
  unfold crossroadsref1_Holds.f holdsB
  rw [e, if_neg (by omega), if_pos (by omega), e2, if_pos (by omega), if_pos (by omega)]
  simp [rdOf]

theorem eval_l1 {n : Int} (hn : n ≤ 65536) {f : List (List Int)} (hc : Came f) (hf : ∀ c ∈ f, ∀ v ∈ c, litOk n v = true) {sol : List Bool} (hs : (sol.length : Int) = n) (r : Bool) (i : Nat) (c : List Int) (hil : i < f.length) (hci : rd_L1 f (i : Int) = c) (hcm : c ∈ f)
    (hend : Ev (fun k => if c.any (holdsB sol) = true then (crossroadsref1_Eval.l0 k f sol ((i + 1 : Nat) : Int)) else (some false)) r) :
    ∀ (s : List Int) (j : Nat) (ok : Bool), c.drop j = s → (ok || s.any (holdsB sol)) = c.any (holdsB sol) → Ev (fun k => crossroadsref1_Eval.l1 k f sol i ok (j : Int)) r := by
  intro s
  induction s with
  | nil =>
    intro j ok hj hok
    rw [← hok] at hend
    simp only [List.any_nil, Bool.or_false] at hend
    refine Ev.step (fun k => ?_) hend
    rw [crossroadsref1_Eval.l1, if_pos (by omega), if_pos (by omega), hci, if_neg (drop_end hj), wrap_succ hil hc.len]
  | cons v s ih =>
    intro j ok hj hok
    obtain ⟨hjl, hv, hs'⟩ := rd_cons hj
    have hvm : v ∈ c := by rw [← List.take_append_drop j c, hj]; simp
    have hl := (hc.rows c hcm).1
    rw [List.any_cons] at hok
    cases ok with
    | true =>
      refine Ev.step (fun k => ?_) (ih (j + 1) true hs' (by rw [← hok]; simp))
      rw [crossroadsref1_Eval.l1, if_pos (by omega), if_pos (by omega), hci, if_pos (by omega), if_pos rfl, wrap_succ hjl hl]
    | false =>
      refine Ev.step (fun k => ?_) (ih (j + 1) (holdsB sol v) hs' (by rw [← hok]; simp))
      rw [crossroadsref1_Eval.l1, if_pos (by omega), if_pos (by omega), hci, if_pos (by omega), if_neg (by decide), if_pos (by omega), hv, holds_is hn hs (hf c hcm v hvm), Option.bind_some, wrap_succ hjl hl]

theorem eval_is {n : Int} (hn : n ≤ 65536) {f : List (List Int)} (hc : Came f) (hf : ∀ c ∈ f, ∀ v ∈ c, litOk n v = true) {sol : List Bool} (hs : (sol.length : Int) = n) : Ev (fun k => crossroadsref1_Eval.f k f sol) (evalB f sol) := by
  have key : ∀ (s : List (List Int)) (i : Nat), f.drop i = s → Ev (fun k => crossroadsref1_Eval.l0 k f sol (i : Int)) (s.all fun c => c.any (holdsB sol)) := by
    intro s
    induction s with
    | nil =>
      intro i hi
      refine Ev.step (fun k => ?_) (Ev.now true)
      rw [crossroadsref1_Eval.l0, if_neg (drop_end hi)]
    | cons c s ih =>
      intro i hi
      obtain ⟨hil, hci, hs'⟩ := rdL_cons hi
      have hcm : c ∈ f := by rw [← List.take_append_drop i f, hi]; simp
      refine Ev.step (f := fun k => crossroadsref1_Eval.l1 k f sol i false ((0 : Nat) : Int)) (fun k => ?_) (eval_l1 hn hc hf hs _ i c hil hci hcm ?_ c 0 false rfl (by simp))
      · rw [crossroadsref1_Eval.l0, if_pos (by omega)]; rfl
      · rw [List.all_cons]
        cases h : c.any (holdsB sol) with
        | true => exact Ev.congr (fun k => by rw [if_pos rfl]) (by rw [Bool.true_and]; exact ih (i + 1) hs')
        | false => exact Ev.congr (fun k => by rw [if_neg (by decide)]) (by rw [Bool.false_and]; exact Ev.now false)
  exact key f 0 rfl
end Go.Proofs.Ytpjnacblaipljaa.Lem
