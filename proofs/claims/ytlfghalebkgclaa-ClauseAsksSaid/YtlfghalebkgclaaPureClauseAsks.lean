/- The plain law of ClauseAsks: whether a formula may be, whether it holds, what stands in it one way alone. -/
import Derived.Test.YtlfghalebkgclaaPx3
import Derived.Test.YtlfghalebkgclaaLemB
namespace Go.Proofs.Ytlfghalebkgclaa.Pure
open Go.RowKit Go.Proofs.Ytlfghalebkgclaa.G Go.Proofs.Ytlfghalebkgclaa.P Go.Proofs.Ytlfghalebkgclaa.Lem Go.Proofs.YtlfghalebkgclaaW.PrintWords Go.Proofs.YtlfghalebkgclaaW.PrintLast Go.Proofs.YtlfghalebkgclaaW.PrintMore
/-- Once may is known: what is asked at last. -/
theorem asks_end (n : Int) (f : List (List Int)) (m : List Bool) (hf : Came f) (hwf : (f.all fun c => c.all fun v => (Lit.int .i64 v).wf) = true) (hm : m.length ≤ 140737488351232) (want : List Int) (b : Bool)
    (hb : b = true → mayB n f = true) (hw : b = false → want = pureF n f) :
    Ev (fun k => crossroadslaw4_ClauseAsks.j6 k n f m (mayB n f) want b) true := by
  have hW : ∀ c ∈ f, ∀ v ∈ c, W64 v := fun c hc => (hf.rows c hc).2
  have hmay : clause_May.f n f = some (mayB n f) := by unfold clause_May.f; rw [may_eq n f hW]
  cases hbb : b with
  | true =>
    refine ⟨1, fun k hk => ?_⟩
    obtain ⟨k', rfl⟩ : ∃ k', k = k' + 1 := ⟨k - 1, by omega⟩
    show crossroadslaw4_ClauseAsks.j6 (k' + 1) n f m (mayB n f) want true = some true
    rw [crossroadslaw4_ClauseAsks.j6, if_pos rfl, hmay, hb hbb]; rfl
  | false =>
    obtain ⟨K1, h1⟩ := reval_is hf hm
    have hlen : (pureF n f).length ≤ 9223372036854775807 := by
      unfold pureF
      split
      · rename_i hq
        have := pureTo_length f n.toNat
        have hq2 : mayB n f = true := by rw [← may_eq n f hW]; exact hq
        unfold mayB at hq2
        rw [Bool.and_eq_true, Bool.and_eq_true] at hq2
        have := of_decide_eq_true hq2.2.1
        omega
      · exact Nat.zero_le _
    have h2 := same_is (pureF n f) want hlen
    rw [hw hbb, decide_eq_true rfl] at h2
    obtain ⟨K2, h2⟩ := h2
    refine ⟨K1 + K2 + 1, fun k hk => ?_⟩
    obtain ⟨k', rfl⟩ : ∃ k', k = k' + 1 := ⟨k - 1, by omega⟩
    have h1' : crossroadsref1_Eval.f k' f m = some (evalB m f) := h1 k' (by omega)
    have h2' : crossroadslaw4_same.f k' (pureF n f) (pureF n f) = some true := h2 k' (by omega)
    have h3 : clause_Pure.f n f = some (pureF n f) := by unfold clause_Pure.f; rw [if_pos hwf]
    show crossroadslaw4_ClauseAsks.j6 (k' + 1) n f m (mayB n f) want false = some true
    rw [crossroadslaw4_ClauseAsks.j6, if_neg (by decide), hmay, Option.bind_some, if_pos (by simp), eval_is hW hm, Option.bind_some, h1', Option.bind_some, if_pos (by simp), h3, Option.bind_some, hw hbb, h2']; rfl
/-- One variable: does it stand so, does it stand the other way? -/
theorem asks_l2 (n : Int) (f : List (List Int)) (m : List Bool) (hf : Came f) (may : Bool) (want : List Int) (v : Int) (hv : wrap64 (-v) = -v) (i : Nat) (hi : i < f.length) (c : List Int) (hci : rd_L1 f (i : Int) = c) (hc : c ∈ f) (b : Bool) :
    ∀ (s : List Int) (j : Nat) (p q : Bool), c.drop j = s → Ev (fun k => crossroadslaw4_ClauseAsks.l1 k n f m may want v (p || decide (v ∈ s)) (q || decide (-v ∈ s)) ((i + 1 : Nat) : Int)) b → Ev (fun k => crossroadslaw4_ClauseAsks.l2 k n f m may want v p q i (j : Int)) b := by
  intro s
  induction s with
  | nil =>
    intro j p q hj hr
    rw [decide_eq_false (by simp), decide_eq_false (by simp), Bool.or_false, Bool.or_false] at hr
    refine Ev.step (fun k => ?_) hr
    rw [crossroadslaw4_ClauseAsks.l2, if_pos (by omega), if_pos (by omega), hci, if_neg (drop_end hj), wrap_succ hi hf.len]
  | cons x s ih =>
    intro j p q hj hr
    obtain ⟨hjl, hx, hs⟩ := rd_cons hj
    have hlen := (hf.rows c hc).1
    have e1 : (decide (v ∈ x :: s)) = (x == v || decide (v ∈ s)) := by
      rw [Bool.eq_iff_iff]
      simp only [List.mem_cons, decide_eq_true_eq, Bool.or_eq_true, beq_iff_eq]
      constructor
      · rintro (h | h)
        · exact .inl h.symm
        · exact .inr h
      · rintro (h | h)
        · exact .inl h.symm
        · exact .inr h
    have e2 : (decide (-v ∈ x :: s)) = (x == -v || decide (-v ∈ s)) := by
      rw [Bool.eq_iff_iff]
      simp only [List.mem_cons, decide_eq_true_eq, Bool.or_eq_true, beq_iff_eq]
      constructor
      · rintro (h | h)
        · exact .inl h.symm
        · exact .inr h
      · rintro (h | h)
        · exact .inl h.symm
        · exact .inr h
    rw [e1, e2, ← Bool.or_assoc, ← Bool.or_assoc] at hr
    refine Ev.step (fun k => ?_) (ih (j + 1) (p || x == v) (q || x == -v) hs hr)
    rw [crossroadslaw4_ClauseAsks.l2, if_pos (by omega), if_pos (by omega), hci, if_pos (by omega), hx, hv, wrap_succ hjl hlen]
    cases p <;> cases q
    · rw [if_neg (by decide), if_pos (by omega), if_neg (by decide), Bool.false_or, Bool.false_or]
    · rw [if_neg (by decide), if_pos (by omega), if_pos rfl, Bool.false_or, Bool.true_or]
    · rw [if_pos rfl, if_neg (by decide), if_pos (by omega), Bool.true_or, Bool.false_or]
    · rw [if_pos rfl, if_pos rfl, Bool.true_or, Bool.true_or]
theorem asks_l1 (n : Int) (f : List (List Int)) (m : List Bool) (hf : Came f) (may : Bool) (want : List Int) (v : Int) (hv : wrap64 (-v) = -v) (b : Bool) :
    ∀ (s : List (List Int)) (i : Nat) (p q : Bool), f.drop i = s → (∀ P Q : Bool, P = (p || decide (v ∈ s.flatten)) → Q = (q || decide (-v ∈ s.flatten)) → Ev (fun k => crossroadslaw4_ClauseAsks.j5 k n f m may want v P Q (P && !Q)) b) → Ev (fun k => crossroadslaw4_ClauseAsks.l1 k n f m may want v p q (i : Int)) b := by
  intro s
  induction s with
  | nil =>
    intro i p q hi hr
    refine Ev.step (fun k => ?_) (hr p q (by simp) (by simp))
    rw [crossroadslaw4_ClauseAsks.l1, if_neg (drop_end hi)]
    cases p
    · rw [if_neg (by decide)]; rfl
    · rw [if_pos rfl]; rfl
  | cons c s ih =>
    intro i p q hi hr
    obtain ⟨hil, hc, hs⟩ := rdL_cons hi
    have hcm : c ∈ f := by rw [← List.take_append_drop i f, hi]; simp
    have e : ∀ x : Int, decide (x ∈ (c :: s).flatten) = (decide (x ∈ c) || decide (x ∈ s.flatten)) := fun x => by
      rw [Bool.eq_iff_iff]; simp
    have h := asks_l2 n f m hf may want v hv i hil c hc hcm b c 0 p q rfl (ih (i + 1) _ _ hs (fun P Q hP hQ => hr P Q (by rw [hP, e, Bool.or_assoc]) (by rw [hQ, e, Bool.or_assoc])))
    refine Ev.step (f := fun k => crossroadslaw4_ClauseAsks.l2 k n f m may want v p q i ((0 : Nat) : Int)) (fun k => ?_) h
    rw [crossroadslaw4_ClauseAsks.l1, if_pos (by omega)]; rfl
theorem asks_j5 (n : Int) (f : List (List Int)) (m : List Bool) (may : Bool) (want : List Int) (v : Int) (hv : wrap64 (-v) = -v) (hv1 : wrap64 (v + 1) = v + 1) (hl : want.length + 1 < 17592186044416) (p q : Bool) (b : Bool)
    (hr : Ev (fun k => crossroadslaw4_ClauseAsks.l0 k n f m may (want ++ (if p = q then [] else if p = true then [v] else [-v])) (v + 1)) b) : Ev (fun k => crossroadslaw4_ClauseAsks.j5 k n f m may want v p q (p && !q)) b := by
  refine Ev.step (fun k => ?_) hr
  rw [crossroadslaw4_ClauseAsks.j5, hv, hv1]
  cases p <;> cases q
  · rw [if_neg (by decide), if_neg (by decide), if_pos rfl, List.append_nil]
  · rw [if_neg (by decide), if_pos rfl, if_neg (by decide), if_pos (by omega), if_neg (by decide), if_neg (by decide)]
  · rw [if_pos (by decide), if_pos (by omega), Option.bind_some, if_neg (by decide), if_neg (by decide), if_pos rfl]
  · rw [if_neg (by decide), if_pos rfl, if_pos rfl, if_pos rfl, List.append_nil]
/-- All variables, up to three hundred. -/
theorem asks_l0 (n : Int) (f : List (List Int)) (m : List Bool) (hf : Came f) (hwf : (f.all fun c => c.all fun v => (Lit.int .i64 v).wf) = true) (hm : m.length ≤ 140737488351232) (hmay : mayB n f = true) (hn : 0 ≤ n ∧ n ≤ 65536) :
    ∀ (d : Nat) (v : Nat), (v : Int) + d = mn n 300 → Ev (fun k => crossroadslaw4_ClauseAsks.l0 k n f m true (pureTo f v) ((v : Int) + 1)) true := by
  have hW : ∀ c ∈ f, ∀ v ∈ c, W64 v := fun c hc => (hf.rows c hc).2
  intro d
  induction d with
  | zero =>
    intro v hv
    have h := asks_end n f m hf hwf hm (pureTo f v) (decide (n > 300)) (fun _ => hmay) (fun h0 => by
      have h1 : ¬ n > 300 := of_decide_eq_false h0
      have : n.toNat = v := by unfold mn at hv; split at hv <;> omega
      unfold pureF
      rw [may_eq n f hW, if_pos hmay, this])
    rw [hmay] at h
    refine Ev.step (f := fun k => crossroadslaw4_ClauseAsks.j2 k n f m true (pureTo f v) ((v : Int) + 1) false) (fun k => ?_) (Ev.step (fun k => ?_) h)
    · rw [crossroadslaw4_ClauseAsks.l0, if_pos rfl, decide_eq_false (by omega)]
    · rw [crossroadslaw4_ClauseAsks.j2, if_neg (by decide), if_pos rfl]
  | succ d ih =>
    intro v hv
    have hmn : mn n 300 ≤ 300 := by unfold mn; split <;> omega
    have hlen := pureTo_length f v
    have e : pureTo f (v + 1) = pureTo f v ++ (if occ f (v + 1) = occ f (-(v + 1)) then [] else if occ f (v + 1) = true then [(v : Int) + 1] else [-((v : Int) + 1)]) := rfl
    have hnext := ih (v + 1) (by omega)
    rw [e, show (((v + 1 : Nat) : Int) + 1) = ((v : Int) + 1) + 1 by omega] at hnext
    have hw1 : wrap64 (-((v : Int) + 1)) = -((v : Int) + 1) := by unfold wrap64; omega
    have hw2 : wrap64 (((v : Int) + 1) + 1) = ((v : Int) + 1) + 1 := by unfold wrap64; omega
    have h5 := fun p q b h => asks_j5 n f m true (pureTo f v) ((v : Int) + 1) hw1 hw2 (by omega) p q b h
    have h1 := asks_l1 n f m hf true (pureTo f v) ((v : Int) + 1) hw1 true f 0 false false rfl (fun P Q hP hQ => by
      rw [Bool.false_or] at hP hQ
      refine h5 P Q true ?_
      unfold occ at hnext
      rw [← hP, ← hQ] at hnext
      exact hnext)
    refine Ev.step (f := fun k => crossroadslaw4_ClauseAsks.j2 k n f m true (pureTo f v) ((v : Int) + 1) true) (fun k => ?_) (Ev.step (f := fun k => crossroadslaw4_ClauseAsks.l1 k n f m true (pureTo f v) ((v : Int) + 1) false false ((0 : Nat) : Int)) (fun k => ?_) h1)
    · rw [crossroadslaw4_ClauseAsks.l0, if_pos rfl, decide_eq_true (by omega)]
    · rw [crossroadslaw4_ClauseAsks.j2, if_pos rfl]; rfl
theorem ClauseAsks : crossroadslaw4_ClauseAsks.Pure := by
  intro n f m hn hf hm0
  have hm : m.length ≤ 140737488351232 := by have := hm0.1; omega
  have hc : Came f := ⟨hf.2.1, fun c hc => ⟨(hf.2.2 c hc).2.1, fun v hv => wf64 ((hf.2.2 c hc).2.2 v hv)⟩⟩
  have hW : ∀ c ∈ f, ∀ v ∈ c, W64 v := fun c hcm => (hc.rows c hcm).2
  have hwf : (f.all fun c => c.all fun v => (Lit.int .i64 v).wf) = true := by
    rw [List.all_eq_true]
    intro c hcm
    rw [List.all_eq_true]
    exact fun v hv => (hf.2.2 c hcm).2.2 v hv
  obtain ⟨K1, hA⟩ := awake_is
  obtain ⟨sm, hS⟩ := small_some hf.2.1 3000
  obtain ⟨K2, hS⟩ := hS
  suffices h : Ev (fun k => if sm = true then (crossroadslaw4_ClauseAsks.j0 k n f m (decide ((m.length : Int) > 1000))) else (crossroadslaw4_ClauseAsks.j0 k n f m true)) true by
    obtain ⟨K3, hK⟩ := h
    refine ⟨K1 + K2 + K3, ?_⟩
    unfold crossroadslaw4_ClauseAsks.f
    rw [show crossroadslaw4_awake.f (K1 + K2 + K3) = some true from hA _ (by omega), Option.bind_some, if_pos rfl, show crossroadslaw4_Small.f (K1 + K2 + K3) f 3000 = some sm from hS _ (by omega), Option.bind_some]
    exact hK _ (by omega)
  have hj : ∀ b : Bool, Ev (fun k => crossroadslaw4_ClauseAsks.j0 k n f m b) true := by
    intro b
    cases b with
    | true =>
      refine Ev.step (f := fun _ => some true) (fun k => ?_) (Ev.now true)
      rw [crossroadslaw4_ClauseAsks.j0, if_pos rfl]
    | false =>
      obtain ⟨K4, h4⟩ := rmay_is n f hc
      have hl : Ev (fun k => crossroadslaw4_ClauseAsks.l0 k n f m (mayB n f) [] 1) true := by
        cases hb : mayB n f with
        | true =>
          have hq := hb
          unfold mayB at hq
          rw [Bool.and_eq_true, Bool.and_eq_true] at hq
          have h0 := of_decide_eq_true hq.1
          have h1 := of_decide_eq_true hq.2.1
          exact asks_l0 n f m hc hwf hm hb ⟨h0, h1⟩ (mn n 300).toNat 0 (by unfold mn; split <;> omega)
        | false =>
          have h := asks_end n f m hc hwf hm [] false (fun h => nomatch h) (fun _ => by
            unfold pureF
            rw [may_eq n f hW, hb, if_neg (by decide)])
          rw [hb] at h
          refine Ev.step (f := fun k => crossroadslaw4_ClauseAsks.j2 k n f m false [] 1 false) (fun k => ?_) (Ev.step (fun k => ?_) h)
          · rw [crossroadslaw4_ClauseAsks.l0, if_neg (by decide)]
          · rw [crossroadslaw4_ClauseAsks.j2, if_neg (by decide), if_neg (by decide)]
      obtain ⟨K5, h5⟩ := hl
      refine ⟨K4 + K5 + 1, fun k hk => ?_⟩
      obtain ⟨k', rfl⟩ : ∃ k', k = k' + 1 := ⟨k - 1, by omega⟩
      show crossroadslaw4_ClauseAsks.j0 (k' + 1) n f m false = some true
      rw [crossroadslaw4_ClauseAsks.j0, if_neg (by decide), show crossroadsref1_FormulaMay.f k' n f = some (mayB n f) from h4 k' (by omega), Option.bind_some]
      exact h5 k' (by omega)
  cases sm with
  | true => simpa using hj _
  | false => simpa using hj _
end Go.Proofs.Ytlfghalebkgclaa.Pure
