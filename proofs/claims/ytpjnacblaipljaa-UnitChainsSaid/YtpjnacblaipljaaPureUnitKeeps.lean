/- UnitKeeps: what follows takes no solution away. For every formula of up to ten variables, every assignment. -/
import Derived.Test.YtpjnacblaipljaaUnitSol
import Derived.Test.YtpjnacblaipljaaPx6
namespace Go.Proofs.Ytpjnacblaipljaa.Pure
set_option linter.unusedVariables false
open Go.RowKit Go.Proofs.Ytpjnacblaipljaa.G Go.Proofs.Ytpjnacblaipljaa.P Go.Proofs.Ytpjnacblaipljaa.Lem Go.Proofs.YtpjnacblaipljaaW.PrintWords Go.Proofs.YtpjnacblaipljaaW.PrintLast Go.Proofs.YtpjnacblaipljaaW.PrintMore

theorem keeps_came_of {f : List (List Int)} (h : f.length ≤ 9223372036854775807) (hr : ∀ c ∈ f, c.length * 8 ≤ 140737488351232 ∧ c.length ≤ 9223372036854775807 ∧ ∀ v ∈ c, (Lit.int .i64 v).wf = true) : Came f :=
  ⟨h, fun c hc => ⟨(hr c hc).2.1, fun v hv => wf64 ((hr c hc).2.2 v hv)⟩⟩
theorem keeps_awake : Ev (fun k => crossroadslaw5_awake.f k) true := Ev.of crossroadslaw5_awake.mono (k := 40) (by kernel_rfl)
theorem wf8 {n : Int} (h : (Lit.int .u8 n).wf = true) : 0 ≤ n ∧ n ≤ 255 := by
  simp [Lit.wf, IntKind.min, IntKind.max, IntKind.bits, IntKind.signed] at h
  omega
theorem mod_small {n : Int} (h : 0 ≤ n ∧ n ≤ 255) (M : Nat) (hM : 0 < M) : ∃ q : Nat, Int.tmod (wrap64 n) M = q ∧ q < M := by
  have e : wrap64 n = n := by unfold wrap64; omega
  rw [e, Int.tmod_eq_emod_of_nonneg h.1]
  refine ⟨(n % M).toNat, ?_, ?_⟩
  · have := Int.emod_nonneg n (b := (M : Int)) (by omega); omega
  · have := Int.emod_lt_of_pos n (b := (M : Int)) (by omega); have := Int.emod_nonneg n (b := (M : Int)) (by omega); omega
theorem zeros_asg (q : Nat) : Asg q (List.replicate q 0) :=
  ⟨by simp, fun x hx => by rw [List.mem_replicate] at hx; omega⟩

theorem keeps_l1 {f : List (List Int)} (hc : Came f) {q : Nat} (hq : q < 11) (hf : ∀ c ∈ f, ∀ v ∈ c, litOk q v = true) {sol : List Bool} (hs : sol.length = q) (r : Option (List Int))
    (hr : ∀ m', r = some m' → m'.length = q ∧ (evalB f sol = true → Agree m' sol)) :
    ∀ (d : Nat) (j : Nat), j + d = q → Ev (fun k => crossroadslaw5_UnitKeeps.l1 k f q sol (said r).1 (said r).2.1 (j : Int)) true := by
  intro d
  induction d with
  | zero =>
    intro j hj
    refine Ev.step (f := fun k => crossroadslaw5_UnitKeeps.j4 k f q sol (said r).1 (said r).2.1 j false) (fun k => by rw [crossroadslaw5_UnitKeeps.l1, if_neg (by omega)]) ?_
    exact Ev.step (fun k => by rw [crossroadslaw5_UnitKeeps.j4, if_neg (by decide)]) (Ev.now true)
  | succ d ih =>
    intro j hj
    refine Ev.step (f := fun k => crossroadslaw5_UnitKeeps.j4 k f q sol (said r).1 (said r).2.1 j (!(said r).2.1)) (fun k => by rw [crossroadslaw5_UnitKeeps.l1, if_pos (by omega)]) ?_
    cases r with
    | none => exact Ev.step (fun k => by rw [crossroadslaw5_UnitKeeps.j4, if_neg (by decide)]) (Ev.now true)
    | some m' =>
      obtain ⟨hl, ha⟩ := hr m' rfl
      have next : Ev (fun k => crossroadslaw5_UnitKeeps.l1 k f q sol m' false (wrap64 ((j : Int) + 1))) true := by
        rw [wrap_succ (show j < q by omega) (by omega)]
        exact ih (j + 1) (by omega)
      refine Ev.step (f := fun k => (crossroadsref1_Eval.f k f sol).bind fun t194 => (if t194 = true then (if 0 ≤ (j : Int) then (if (j : Int) < (m'.length : Int) then (if (rd m' j) = 0 then (crossroadslaw5_UnitKeeps.l1 k f q sol m' false (wrap64 ((j : Int) + 1))) else (if (j : Int) < (sol.length : Int) then (if (((rd m' j) == 1) != (rdOf false sol j)) = true then (none) else (crossroadslaw5_UnitKeeps.l1 k f q sol m' false (wrap64 ((j : Int) + 1)))) else (none))) else (none)) else (none)) else (crossroadslaw5_UnitKeeps.l1 k f q sol m' false (wrap64 ((j : Int) + 1)))))
        (fun k => by rw [crossroadslaw5_UnitKeeps.j4, if_pos (by rfl)]; rfl) (Ev.bind (eval_is (n := q) (by omega) hc hf (by omega)) ?_)
      cases he : evalB f sol with
      | false => exact Ev.congr (fun k => by rw [if_neg (by decide)]) next
      | true =>
        refine Ev.congr (fun k => ?_) next
        rw [if_pos rfl, if_pos (by omega), if_pos (by omega), rd_at]
        by_cases h0 : m'.getD j 0 = 0
        · rw [if_pos h0]
        · have := ha he j h0
          have e : rdOf false sol (j : Int) = sol.getD j false := by simp [rdOf]
          rw [if_neg h0, if_pos (by omega), e, if_neg (by rw [this]; simp)]

theorem keeps_l0 {f : List (List Int)} (hc : Came f) {q : Nat} (hq : q < 11) (hf : ∀ c ∈ f, ∀ v ∈ c, litOk q v = true) (hmay : mayB q f = true) (x : Int) :
    ∀ (d : Nat) (j : Nat) (sol : List Bool), sol.length = q → j + d = q → Ev (fun k => crossroadslaw5_UnitKeeps.l0 k f x q sol (List.replicate q 0) (j : Int)) true := by
  intro d
  induction d with
  | zero =>
    intro j sol hs hj
    have hz := zeros_asg q
    have hfine : fineB q f (List.replicate q 0) = true := by
      unfold fineB
      rw [hmay, Bool.true_and, decide_eq_true (by simp), Bool.true_and, Bool.not_eq_true', List.any_eq_false]
      intro y hy
      rw [List.mem_replicate] at hy
      rw [hy.2]; decide
    obtain ⟨r, hr⟩ := runs_some (n := q) (by omega) hf _ _ rfl hz
    have hag : Agree (List.replicate q 0) sol := fun i hi => by
      exfalso; apply hi
      by_cases h : i < q
      · simp [List.getD, h]
      · simp [List.getD, List.getElem?_eq_none (show (List.replicate q (0 : Int)).length ≤ i by simp; omega)]
    have hend := keeps_l1 hc hq hf hs r (fun m' hm' => ⟨by have := (runs_asg (n := q) (by omega) hf hr hz m' hm').len; omega, fun he => by
      obtain ⟨m2, e, g⟩ := runs_keeps (n := q) (by omega) hf he hr hz hag
      rw [e] at hm'; cases hm'; exact g⟩) q 0 (by omega)
    have j2 : Ev (fun k => crossroadslaw5_UnitKeeps.j2 k f q sol (said r).1 (said r).2.1 false) true :=
      Ev.step (f := fun k => crossroadslaw5_UnitKeeps.l1 k f q sol (said r).1 (said r).2.1 ((0 : Nat) : Int)) (fun k => by rw [crossroadslaw5_UnitKeeps.j2, if_neg (by decide)]; rfl) hend
    refine Ev.step (fun k => by rw [crossroadslaw5_UnitKeeps.l0, if_neg (by omega)]) (Ev.bind (run_is hc (by rw [List.length_replicate]; omega) hfine hr) ?_)
    cases r with
    | none =>
      refine Ev.congr (f := fun k => (crossroadsref1_Eval.f k f sol).bind fun t193 => (if t193 = true then (crossroadslaw5_UnitKeeps.j2 k f q sol (said none).1 (said none).2.1 true) else (crossroadslaw5_UnitKeeps.j2 k f q sol (said none).1 (said none).2.1 false))) (fun k => by rw [if_pos (by rfl), if_pos (by rfl)]) (Ev.bind (eval_is (n := q) (by omega) hc hf (by omega)) ?_)
      cases he : evalB f sol with
      | true =>
        obtain ⟨m2, e, _⟩ := runs_keeps (n := q) (by omega) hf he hr hz hag
        cases e
      | false => exact Ev.congr (fun k => by rw [if_neg (by decide)]) j2
    | some m' =>
      have hl := (runs_asg (n := q) (by omega) hf hr hz m' rfl).len
      refine Ev.congr (fun k => ?_) j2
      have hn : (((said (some m')).1.length : Int) != (q : Int)) = false := by
        show ((m'.length : Int) != (q : Int)) = false
        rw [hl]; simp
      rw [if_pos (by rfl), if_neg (by show ¬ (false = true); decide), hn]
  | succ d ih =>
    intro j sol hs hj
    refine Ev.step (fun k => ?_) (ih (j + 1) (sol.set j ((Go.bits .and .u16 (shr .u16 x (IntKind.u64.wrap (j : Int))) 1) == 1)) (by rw [List.length_set]; exact hs) (by omega))
    have hu : 0 ≤ IntKind.u64.wrap (j : Int) := by
      have : IntKind.u64.wrap (j : Int) = (j : Int) % 18446744073709551616 := by simp [IntKind.wrap, IntKind.bits, IntKind.signed]
      rw [this]; omega
    rw [crossroadslaw5_UnitKeeps.l0, if_pos (by omega), if_pos hu, if_pos (by omega), if_pos (by omega), wrap_succ (show j < q by omega) (by omega)]
    rfl

theorem UnitKeeps : crossroadslaw5_UnitKeeps.Pure := by
  intro n f x hn hf hx
  have hc := keeps_came_of hf.2.1 hf.2.2
  obtain ⟨q, hqe, hq⟩ := mod_small (wf8 hn) 11 (by decide)
  refine Ev.rounds ?_
  unfold crossroadslaw5_UnitKeeps.f
  refine Ev.bind keeps_awake ?_
  have yes : Ev (fun k => crossroadslaw5_UnitKeeps.j0 k f x q true) true := Ev.step (fun k => by rw [crossroadslaw5_UnitKeeps.j0, if_pos rfl]) (Ev.now true)
  refine Ev.congr (f := fun k => (crossroadslaw4_Small.f k f 500).bind fun t179 => (if t179 = true then ((crossroadsref1_FormulaMay.f k q f).bind fun t180 => (crossroadslaw5_UnitKeeps.j0 k f x q (!t180))) else (crossroadslaw5_UnitKeeps.j0 k f x q true))) (fun k => by rw [if_pos rfl]; rw [show ((11 : Int)) = ((11 : Nat) : Int) from rfl, hqe]) ?_
  obtain ⟨b, hb⟩ := small_some hf.2.1 500
  refine Ev.bind hb ?_
  cases b with
  | false => exact Ev.congr (fun k => by rw [if_neg (by decide)]) yes
  | true =>
    refine Ev.congr (f := fun k => (crossroadsref1_FormulaMay.f k q f).bind fun t180 => (crossroadslaw5_UnitKeeps.j0 k f x q (!t180))) (fun k => by rw [if_pos rfl]) (Ev.bind (rmay_is q f hc) ?_)
    cases hmay : mayB q f with
    | false => exact yes
    | true =>
      have hok : ∀ c ∈ f, ∀ v ∈ c, litOk q v = true := by
        unfold mayB at hmay
        simp only [Bool.and_eq_true, decide_eq_true_eq, List.all_eq_true] at hmay
        exact hmay.2.2
      refine Ev.step (f := fun k => crossroadslaw5_UnitKeeps.l0 k f x q (List.replicate q false) (List.replicate q 0) ((0 : Nat) : Int)) (fun k => ?_) (keeps_l0 hc hq hok hmay x q 0 (List.replicate q false) (by simp) (by omega))
      rw [crossroadslaw5_UnitKeeps.j0, if_neg (by decide), if_pos (by omega), if_pos (by omega), if_pos (by omega)]
      rfl
end Go.Proofs.Ytpjnacblaipljaa.Pure
