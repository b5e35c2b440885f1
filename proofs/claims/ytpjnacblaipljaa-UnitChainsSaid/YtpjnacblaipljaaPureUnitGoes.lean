/- UnitGoes: propagated again nothing more follows; what was assigned stays. For every formula of up to nineteen variables and every assignment. -/
import Derived.Test.YtpjnacblaipljaaUnitSol
import Derived.Test.YtpjnacblaipljaaPureUnitKeeps
import Derived.Test.YtpjnacblaipljaaPx8
namespace Go.Proofs.Ytpjnacblaipljaa.Pure
set_option linter.unusedVariables false
open Go.RowKit Go.Proofs.Ytpjnacblaipljaa.G Go.Proofs.Ytpjnacblaipljaa.P Go.Proofs.Ytpjnacblaipljaa.Lem Go.Proofs.YtpjnacblaipljaaW.PrintWords Go.Proofs.YtpjnacblaipljaaW.PrintLast Go.Proofs.YtpjnacblaipljaaW.PrintMore

theorem pass_stays {n : Int} (hn : n ≤ 65536) : ∀ (s : List (List Int)) (m : List Int) (again : Bool) (m' : List Int) (b : Bool), Asg n m → (∀ c ∈ s, ∀ v ∈ c, litOk n v = true) → pass m again s = some (m', b) → ∀ i, m.getD i 0 ≠ 0 → m'.getD i 0 = m.getD i 0
  | [], m, again, m', b, hm, _, h => by
    rw [pass] at h
    obtain ⟨rfl, rfl⟩ := Prod.mk.inj (Option.some.inj h)
    exact fun _ _ => rfl
  | c :: s, m, again, m', b, hm, hs, h => by
    rw [pass] at h
    by_cases h2 : (last m 0 c).2 = true
    · rw [if_pos h2] at h
      by_cases h1 : (last m 0 c).1 = 0
      · rw [if_pos h1] at h
        exact pass_stays hn s m again m' b hm (fun d hd => hs d (List.mem_cons_of_mem _ hd)) h
      · rw [if_neg h1] at h
        have hl : (last m 0 c).1 ∈ c ∧ val m (last m 0 c).1 = 0 := by
          rcases last_lit m c 0 with h | h | h
          · exact absurd h h1
          · exact absurd h h1
          · exact h
        intro i hi
        have hne : pos (last m 0 c).1 ≠ i := by
          intro e
          have := (@val_zero n (last m 0 c).1 m).1 hl.2
          rw [e] at this
          exact hi this
        have hput : (put m (last m 0 c).1).getD i 0 = m.getD i 0 := by
          unfold put
          simp [List.getD, List.getElem?_set_ne hne]
        rw [pass_stays hn s _ true m' b (put_asg hm) (fun d hd => hs d (List.mem_cons_of_mem _ hd)) h i (by rw [hput]; exact hi), hput]
    · rw [if_neg h2] at h; cases h
theorem runs_stays {n : Int} (hn : n ≤ 65536) {f : List (List Int)} (hf : ∀ c ∈ f, ∀ v ∈ c, litOk n v = true) {m : List Int} {r : Option (List Int)} (hr : Runs f m r) (hm : Asg n m) : ∀ a, r = some a → (∀ i, m.getD i 0 ≠ 0 → a.getD i 0 = m.getD i 0) ∧ pass a false f = some (a, false) := by
  induction hr with
  | bad _ => intro _ h; cases h
  | done hp =>
    intro a h
    cases h
    have e := (pass_ok hn f _ false _ false hm hf hp).2.2.2 rfl
    refine ⟨pass_stays hn f _ false _ false hm hf hp, ?_⟩
    subst e
    exact hp
  | again hp _ ih =>
    intro a h
    obtain ⟨g1, g2⟩ := ih (pass_ok hn f _ false _ true hm hf hp).1 a h
    refine ⟨fun i hi => ?_, g2⟩
    have h1 := pass_stays hn f _ false _ true hm hf hp i hi
    rw [g1 i (by rw [h1]; exact hi), h1]
theorem fine_of {n : Int} {f : List (List Int)} {m : List Int} (hmay : mayB n f = true) (hm : Asg n m) : fineB n f m = true := by
  unfold fineB
  rw [hmay, Bool.true_and, decide_eq_true hm.len, Bool.true_and, Bool.not_eq_true', List.any_eq_false]
  intro x hx
  have := hm.rng x hx
  unfold pred27
  rw [decide_eq_false (by omega : ¬ x < -1), decide_eq_false (by omega : ¬ 1 < x)]
  decide

theorem goes_l1 {f : List (List Int)} {q : Nat} (hq : q < 20) {m a : List Int} (hm : m.length = q) (ha : a.length = q) (hst : ∀ i, m.getD i 0 ≠ 0 → a.getD i 0 = m.getD i 0) :
    ∀ (d : Nat) (j : Nat), j + d = q → Ev (fun k => crossroadslaw5_UnitGoes.l1 k m q a a false 0 (j : Int)) true := by
  intro d
  induction d with
  | zero =>
    intro j hj
    refine Ev.step (f := fun k => (crossroadslaw5_same.f k a a).bind fun t382 => some t382) (fun k => by rw [crossroadslaw5_UnitGoes.l1, if_neg (by omega), if_pos rfl, if_neg (by decide)]) ?_
    have e := same_is a a (by omega)
    rw [decide_eq_true rfl] at e
    exact Ev.bind e (Ev.now true)
  | succ d ih =>
    intro j hj
    refine Ev.step (fun k => ?_) (ih (j + 1) (by omega))
    rw [crossroadslaw5_UnitGoes.l1, if_pos (by omega), if_pos (by omega), if_pos (by omega), rd_at, rd_at, wrap_succ (show j < q by omega) (by omega)]
    by_cases h0 : m.getD j 0 = 0
    · rw [if_pos h0]
    · rw [if_neg h0, if_pos (by omega), if_pos (hst j h0)]

theorem goes_l0 {f : List (List Int)} (hc : Came f) {q : Nat} (hq : q < 20) (hmay : mayB q f = true) (hf : ∀ c ∈ f, ∀ v ∈ c, litOk q v = true) {m : List Int} (hm : m.length = q) :
    ∀ (d : Nat) (j : Nat), j + d = q → (∀ i, i < j → -1 ≤ m.getD i 0 ∧ m.getD i 0 ≤ 1) → Ev (fun k => crossroadslaw5_UnitGoes.l0 k f m q (j : Int)) true := by
  intro d
  induction d with
  | zero =>
    intro j hj hall
    have hasg : Asg q m := ⟨by omega, fun x hx => by
      obtain ⟨i, hi, rfl⟩ := List.mem_iff_getElem.1 hx
      have := hall i (by omega)
      simpa [List.getD, hi] using this⟩
    obtain ⟨r, hr⟩ := runs_some (n := q) (by omega) hf _ _ rfl hasg
    refine Ev.step (fun k => by rw [crossroadslaw5_UnitGoes.l0, if_neg (by omega)]) (Ev.bind (run_is hc (by omega) (fine_of hmay hasg) hr) ?_)
    cases r with
    | none =>
      refine Ev.congr (f := fun k => crossroadslaw5_UnitGoes.j2 k f m q [] 0 true) (fun k => by rw [if_pos (by rfl)]; rfl) ?_
      exact Ev.step (fun k => by rw [crossroadslaw5_UnitGoes.j2, if_pos rfl]; rfl) (Ev.now true)
    | some a =>
      obtain ⟨hst, hp⟩ := runs_stays (n := q) (by omega) hf hr hasg a rfl
      have haa := runs_asg (n := q) (by omega) hf hr hasg a rfl
      have hal : a.length = q := by have := haa.len; omega
      refine Ev.congr (f := fun k => crossroadslaw5_UnitGoes.j2 k f m q a 0 false) (fun k => by rw [if_pos (by rfl)]; rfl) ?_
      refine Ev.step (fun k => by rw [crossroadslaw5_UnitGoes.j2, if_neg (by decide)]) (Ev.bind (run_is hc (by omega) (fine_of hmay haa) (.done hp)) ?_)
      exact goes_l1 (f := f) hq hm hal hst q 0 (by omega)
  | succ d ih =>
    intro j hj hall
    by_cases h1 : m.getD j 0 < -1
    · refine Ev.step (fun k => ?_) (Ev.now true)
      rw [crossroadslaw5_UnitGoes.l0, if_pos (by omega), if_pos (by omega), if_pos (by omega), rd_at, if_pos h1]
    · by_cases h2 : m.getD j 0 > 1
      · refine Ev.step (fun k => ?_) (Ev.now true)
        rw [crossroadslaw5_UnitGoes.l0, if_pos (by omega), if_pos (by omega), if_pos (by omega), rd_at, if_neg h1, if_pos h2]
      · refine Ev.step (fun k => ?_) (ih (j + 1) (by omega) (fun i hi => ?_))
        · rw [crossroadslaw5_UnitGoes.l0, if_pos (by omega), if_pos (by omega), if_pos (by omega), rd_at, if_neg h1, if_neg h2, wrap_succ (show j < q by omega) (by omega)]
        · rcases Nat.lt_succ_iff_lt_or_eq.1 hi with h | rfl
          · exact hall i h
          · omega

theorem UnitGoes : crossroadslaw5_UnitGoes.Pure := by
  intro n f m hn hf hm
  have hc := keeps_came_of hf.2.1 hf.2.2
  obtain ⟨q, hqe, hq⟩ := mod_small (wf8 hn) 20 (by decide)
  refine Ev.rounds ?_
  unfold crossroadslaw5_UnitGoes.f
  refine Ev.bind keeps_awake ?_
  have yes : Ev (fun k => crossroadslaw5_UnitGoes.j0 k f m q true) true := Ev.step (fun k => by rw [crossroadslaw5_UnitGoes.j0, if_pos rfl]) (Ev.now true)
  refine Ev.congr (f := fun k => (crossroadslaw4_Small.f k f 500).bind fun t365 => (if t365 = true then ((crossroadsref1_FormulaMay.f k q f).bind fun t366 => (if t366 = true then (crossroadslaw5_UnitGoes.j0 k f m q ((m.length : Int) != q)) else (crossroadslaw5_UnitGoes.j0 k f m q true))) else (crossroadslaw5_UnitGoes.j0 k f m q true))) (fun k => by rw [if_pos rfl]; rw [show ((20 : Int)) = ((20 : Nat) : Int) from rfl, hqe]) ?_
  obtain ⟨b, hb⟩ := small_some hf.2.1 500
  refine Ev.bind hb ?_
  cases b with
  | false => exact Ev.congr (fun k => by rw [if_neg (by decide)]) yes
  | true =>
    refine Ev.congr (f := fun k => (crossroadsref1_FormulaMay.f k q f).bind fun t366 => (if t366 = true then (crossroadslaw5_UnitGoes.j0 k f m q ((m.length : Int) != q)) else (crossroadslaw5_UnitGoes.j0 k f m q true))) (fun k => by rw [if_pos rfl]) (Ev.bind (rmay_is q f hc) ?_)
    cases hmay : mayB q f with
    | false => exact Ev.congr (fun k => by rw [if_neg (by decide)]) yes
    | true =>
      have hok : ∀ c ∈ f, ∀ v ∈ c, litOk q v = true := by
        unfold mayB at hmay
        simp only [Bool.and_eq_true, decide_eq_true_eq, List.all_eq_true] at hmay
        exact hmay.2.2
      by_cases hl : m.length = q
      · have hne : ((m.length : Int) != (q : Int)) = false := by rw [hl]; simp
        refine Ev.congr (fun k => by rw [if_pos rfl, hne]) ?_
        refine Ev.step (f := fun k => crossroadslaw5_UnitGoes.l0 k f m q ((0 : Nat) : Int)) (fun k => ?_) (goes_l0 hc hq hmay hok hl q 0 (by omega) (fun i hi => absurd hi (Nat.not_lt_zero _)))
        rw [crossroadslaw5_UnitGoes.j0, if_neg (by decide)]; rfl
      · have hne : ((m.length : Int) != (q : Int)) = true := by simp; omega
        exact Ev.congr (fun k => by rw [if_pos rfl, hne]) yes
end Go.Proofs.Ytpjnacblaipljaa.Pure
