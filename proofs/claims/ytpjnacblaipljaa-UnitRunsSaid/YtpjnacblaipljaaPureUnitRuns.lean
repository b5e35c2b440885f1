/- UnitRuns: whatever formula and assignment: unit.Run answers what the reference's Unit answers, and ErrArg just where it should. For every input. -/
import Derived.Test.YtpjnacblaipljaaUnitRef
namespace Go.Proofs.Ytpjnacblaipljaa.Pure
set_option linter.unusedVariables false
open Go.RowKit Go.Proofs.Ytpjnacblaipljaa.G Go.Proofs.Ytpjnacblaipljaa.P Go.Proofs.Ytpjnacblaipljaa.Lem Go.Proofs.YtpjnacblaipljaaW.PrintWords Go.Proofs.YtpjnacblaipljaaW.PrintLast Go.Proofs.YtpjnacblaipljaaW.PrintMore

theorem came_of {f : List (List Int)} (h : f.length ≤ 9223372036854775807) (hr : ∀ c ∈ f, c.length * 8 ≤ 140737488351232 ∧ c.length ≤ 9223372036854775807 ∧ ∀ v ∈ c, (Lit.int .i64 v).wf = true) : Came f :=
  ⟨h, fun c hc => ⟨(hr c hc).2.1, fun v hv => wf64 ((hr c hc).2.2 v hv)⟩⟩
theorem awake_ev : Ev (fun k => crossroadslaw5_awake.f k) true := Ev.of crossroadslaw5_awake.mono (k := 40) (by kernel_rfl)

/-- The numbers of an assignment are looked through. -/
theorem fine_l0 {n : Int} {f : List (List Int)} {m : List Int} (hm : m.length ≤ 9223372036854775807) (b : Bool)
    (hend : ∀ fine, fine = (b && !(m.any pred27)) → Ev (fun k => crossroadslaw5_UnitRuns.l0 k n f m fine m.length) true) :
    ∀ (s : List Int) (j : Nat) (fine : Bool), m.drop j = s → (fine && !(s.any pred27)) = (b && !(m.any pred27)) → Ev (fun k => crossroadslaw5_UnitRuns.l0 k n f m fine (j : Int)) true := by
  intro s
  induction s with
  | nil =>
    intro j fine hj hfine
    have hjl : m.length ≤ j := by have := congrArg List.length hj; rw [List.length_drop, List.length_nil] at this; omega
    refine Ev.step (f := fun k => crossroadslaw5_UnitRuns.l0 (k + 1) n f m fine m.length) (fun k => ?_) ?_
    · rw [crossroadslaw5_UnitRuns.l0, if_neg (drop_end hj), crossroadslaw5_UnitRuns.l0, if_neg (by omega)]
    · obtain ⟨K, hK⟩ := hend fine (by rw [← hfine]; simp)
      exact ⟨K, fun k hk => hK (k + 1) (by omega)⟩
  | cons x s ih =>
    intro j fine hj hfine
    obtain ⟨hjl, hx, hs⟩ := rd_cons hj
    have ha : (x :: s).any pred27 = (pred27 x || s.any pred27) := by simp
    rw [ha] at hfine
    cases fine with
    | false =>
      refine Ev.step (fun k => ?_) (ih (j + 1) false hs (by simpa using hfine))
      rw [crossroadslaw5_UnitRuns.l0, if_pos (by omega), if_neg (by decide), wrap_succ hjl hm]
    | true =>
      have hp : pred27 x = !(decide (x ≥ -1) && decide (x ≤ 1)) := by
        unfold pred27
        by_cases h1 : x < -1
        · rw [decide_eq_true h1, decide_eq_false (by omega : ¬ x ≥ -1)]; rfl
        · rw [decide_eq_false h1, decide_eq_true (by omega : x ≥ -1)]
          by_cases h2 : 1 < x
          · rw [decide_eq_true h2, decide_eq_false (by omega : ¬ x ≤ 1)]; rfl
          · rw [decide_eq_false h2, decide_eq_true (by omega : x ≤ 1)]; rfl
      rw [hp] at hfine
      by_cases h1 : x ≥ -1
      · rw [decide_eq_true h1] at hfine
        refine Ev.step (fun k => ?_) (ih (j + 1) (decide (x ≤ 1)) hs (by rw [← hfine]; simp))
        rw [crossroadslaw5_UnitRuns.l0, if_pos (by omega), if_pos rfl, if_pos (by omega), hx, if_pos h1, wrap_succ hjl hm]
      · rw [decide_eq_false h1] at hfine
        refine Ev.step (fun k => ?_) (ih (j + 1) false hs (by rw [← hfine]; simp))
        rw [crossroadslaw5_UnitRuns.l0, if_pos (by omega), if_pos rfl, if_pos (by omega), hx, if_neg h1, wrap_succ hjl hm]

theorem UnitRuns : crossroadslaw5_UnitRuns.Pure := by
  intro n f m hn hf hm
  have hc := came_of hf.2.1 hf.2.2
  refine Ev.rounds ?_
  unfold crossroadslaw5_UnitRuns.f
  refine Ev.bind awake_ev ?_
  refine Ev.congr (f := fun k => (crossroadslaw4_Small.f k f 3000).bind fun t159 => (if t159 = true then (crossroadslaw5_UnitRuns.j0 k n f m (decide ((m.length : Int) > 300))) else (crossroadslaw5_UnitRuns.j0 k n f m true))) (fun k => by rw [if_pos rfl]) ?_
  obtain ⟨b, hb⟩ := small_some hf.2.1 3000
  refine Ev.bind hb ?_
  have yes : Ev (fun k => crossroadslaw5_UnitRuns.j0 k n f m true) true := Ev.step (fun k => by rw [crossroadslaw5_UnitRuns.j0, if_pos rfl]) (Ev.now true)
  have no : Ev (fun k => crossroadslaw5_UnitRuns.j0 k n f m false) true := by
    refine Ev.step (fun k => by rw [crossroadslaw5_UnitRuns.j0, if_neg (by decide)]) (Ev.bind (rmay_is n f hc) ?_)
    have key : ∀ b, (b && !(m.any pred27)) = fineB n f m → Ev (fun k => crossroadslaw5_UnitRuns.j1 k n f m b) true := by
      intro b hbf
      refine Ev.step (f := fun k => crossroadslaw5_UnitRuns.l0 k n f m b ((0 : Nat) : Int)) (fun k => ?_) (fine_l0 hm.2.1 b (fun fine hfine => ?_) m 0 b rfl rfl)
      · rw [crossroadslaw5_UnitRuns.j1]; rfl
      · rw [hbf] at hfine
        subst hfine
        cases hfi : fineB n f m with
        | false =>
          refine Ev.step (fun k => by rw [crossroadslaw5_UnitRuns.l0, if_neg (by omega)]) (Ev.bind (run_not hc hfi) ?_)
          refine Ev.congr (fun k => ?_) (Ev.now true)
          rw [if_neg (by decide), if_pos rfl, if_neg (by decide)]; rfl
        | true =>
          obtain ⟨h0, h1, h2, h3⟩ := fine_asg hfi
          obtain ⟨r, hr⟩ := runs_some h1 h2 _ m rfl h3
          refine Ev.step (fun k => by rw [crossroadslaw5_UnitRuns.l0, if_neg (by omega)]) (Ev.bind (run_is hc hm.1 hfi hr) ?_)
          refine Ev.congr (f := fun k => (crossroadsref1_Unit.f k n f m).bind fun bt168 => (if (said r).2.2 = 0 then (if ((said r).2.1 == bt168.2) = true then ((crossroadslaw5_same.f k (said r).1 bt168.1).bind fun t172 => (some t172)) else none) else none)) (fun k => by rw [if_pos rfl]) (Ev.bind (ref_is hc hm.1 hfi hr) ?_)
          have hs2 : (said r).2.2 = 0 := by cases r <;> rfl
          have hs1 : ((said r).2.1 == (rsaid r).2) = true := by cases r <;> rfl
          have hs0 : (said r).1 = (rsaid r).1 := by cases r <;> rfl
          have hlen : (said r).1.length ≤ 9223372036854775807 := by
            cases r with
            | none => simp [said]
            | some m' =>
              have : ∀ m r, Runs f m r → Asg n m → ∀ m', r = some m' → Asg n m' := by
                intro m r h
                induction h with
                | bad _ => intro _ _ h; cases h
                | done hp => intro hm m' h; cases h; exact (pass_ok h1 f _ false _ false hm h2 hp).1
                | again hp _ ih => intro hm m' h; exact ih (pass_ok h1 f _ false _ true hm h2 hp).1 m' h
              have := (this m _ hr h3 m' rfl).len
              show m'.length ≤ _
              have := h3.len
              omega
          refine Ev.congr (f := fun k => (crossroadslaw5_same.f k (said r).1 (rsaid r).1).bind fun t172 => some t172) (fun k => by rw [if_pos hs2, if_pos hs1]) ?_
          have e := same_is (said r).1 (rsaid r).1 hlen
          rw [decide_eq_true hs0] at e
          exact Ev.bind e (Ev.now true)
    cases hmay : mayB n f with
    | true =>
      refine Ev.congr (fun k => by rw [if_pos rfl]) (key _ ?_)
      unfold fineB
      rw [hmay, Bool.true_and]
      congr 1
    | false =>
      refine Ev.congr (fun k => by rw [if_neg (by decide)]) (key false ?_)
      unfold fineB
      rw [hmay]; simp
  cases b with
  | false => exact Ev.congr (fun k => by rw [if_neg (by decide)]) yes
  | true =>
    by_cases hl : (m.length : Int) > 300
    · exact Ev.congr (fun k => by rw [if_pos rfl, decide_eq_true hl]) yes
    · exact Ev.congr (fun k => by rw [if_pos rfl, decide_eq_false hl]) no
end Go.Proofs.Ytpjnacblaipljaa.Pure
