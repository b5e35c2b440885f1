/- The reference's Unit comes to what Run comes to. -/
import Derived.Test.YtpjnacblaipljaaUnitRun
namespace Go.Proofs.Ytpjnacblaipljaa.Lem
set_option linter.unusedVariables false
open Go.RowKit Go.Proofs.Ytpjnacblaipljaa.G Go.Proofs.Ytpjnacblaipljaa.P Go.Proofs.YtpjnacblaipljaaW.PrintWords Go.Proofs.YtpjnacblaipljaaW.PrintLast Go.Proofs.YtpjnacblaipljaaW.PrintMore

def anyHolds (m : List Int) (c : List Int) : Bool := c.any fun v => decide (val m v = 1)
def openLast (m : List Int) : Int → List Int → Int
  | o, [] => o
  | o, v :: c => if val m v = 0 then openLast m v c else openLast m o c
def differ (m : List Int) : Int → List Int → Bool
  | _, [] => false
  | first, v :: c => if val m v = 0 then (if first = 0 then differ m v c else if v = first then differ m first c else true) else differ m first c

theorem last_says (m : List Int) : ∀ (s : List Int) (one : Int), last m one s = if (anyHolds m s || differ m one s) = true then (0, true) else (openLast m one s, openLast m one s != 0)
  | [], one => by simp [last, anyHolds, differ, openLast]
  | v :: s, one => by
    have ha : anyHolds m (v :: s) = (decide (val m v = 1) || anyHolds m s) := by simp [anyHolds]
    rw [last, ha, differ, openLast]
    by_cases h1 : val m v = 1
    · rw [if_pos h1, decide_eq_true h1]; simp
    · rw [if_neg h1, decide_eq_false h1, Bool.false_or]
      by_cases h0 : val m v = 0
      · rw [if_pos h0, if_pos h0, if_pos h0]
        by_cases ho : one = 0
        · rw [if_pos (.inl ho), if_pos ho]; exact last_says m s v
        · by_cases ho2 : one = v
          · rw [if_pos (.inr ho2), if_neg ho, if_pos ho2.symm, ← ho2]; exact last_says m s one
          · rw [if_neg (fun h => h.elim ho ho2), if_neg ho, if_neg (fun h : v = one => ho2 h.symm), Bool.or_true, if_pos rfl]
      · rw [if_neg h0, if_neg h0, if_neg h0]; exact last_says m s one

theorem val_zero {n v : Int} {m : List Int} : val m v = 0 ↔ m.getD (pos v) 0 = 0 := by
  unfold val; split <;> omega
theorem val_one {n v : Int} {m : List Int} (hm : Asg n m) (hv : v ≠ 0) (h0 : ¬ m.getD (pos v) 0 = 0) : decide (val m v = 1) = ((m.getD (pos v) 0 == 1) == decide (v > 0)) := by
  have hr := hm.at (pos v)
  unfold val
  generalize m.getD (pos v) 0 = s at *
  have hs : s = 1 ∨ s = -1 := by omega
  by_cases hn : v < 0
  · rw [if_pos hn, decide_eq_false (by omega : ¬ v > 0)]
    rcases hs with rfl | rfl <;> rfl
  · rw [if_neg hn, decide_eq_true (by omega : v > 0)]
    rcases hs with rfl | rfl <;> rfl

theorem ref_idx {n v : Int} {m : List Int} (hn : n ≤ 65536) (hm : Asg n m) (h : litOk n v = true) : wrap64 (mx v (wrap64 (-v)) - 1) = ((pos v : Nat) : Int) ∧ pos v < m.length ∧ v ≠ 0 := by
  obtain ⟨hp, he, h1, h2, h3⟩ := pos_lt hn hm h
  rw [idx_mx h1 h2 h3, he]
  exact ⟨rfl, hp, h3⟩

theorem differ_is {n : Int} {m : List Int} (hn : n ≤ 65536) (hm : Asg n m) (c : List Int) (hl : c.length ≤ 9223372036854775807) (hc : ∀ v ∈ c, litOk n v = true) :
    ∀ (s : List Int) (j : Nat) (first : Int), c.drop j = s → Ev (fun k => crossroadsref1_differ.l0 k c m first (j : Int)) (differ m first s) := by
  intro s
  induction s with
  | nil =>
    intro j first hj
    refine Ev.step (fun k => ?_) (Ev.now _)
    rw [crossroadsref1_differ.l0, if_neg (drop_end hj)]; rfl
  | cons v s ih =>
    intro j first hj
    obtain ⟨hjl, hv, hs⟩ := rd_cons hj
    have hvm : v ∈ c := by rw [← List.take_append_drop j c, hj]; simp
    obtain ⟨hi, hp, h0⟩ := ref_idx hn hm (hc v hvm)
    have hz := @val_zero n v m
    rw [differ]
    by_cases hv0 : val m v = 0
    · rw [if_pos hv0]
      by_cases hf : first = 0
      · rw [if_pos hf]
        refine Ev.step (fun k => ?_) (ih (j + 1) v hs)
        rw [crossroadsref1_differ.l0, if_pos (by omega), if_pos (by omega), hv, hi, if_pos (by omega), if_pos (by omega), rd_at, if_pos (hz.1 hv0), if_pos hf, wrap_succ hjl hl]
      · rw [if_neg hf]
        by_cases he : v = first
        · rw [if_pos he]
          refine Ev.step (fun k => ?_) (ih (j + 1) first hs)
          rw [crossroadsref1_differ.l0, if_pos (by omega), if_pos (by omega), hv, hi, if_pos (by omega), if_pos (by omega), rd_at, if_pos (hz.1 hv0), if_neg hf, if_pos he, wrap_succ hjl hl]
        · rw [if_neg he]
          refine Ev.step (fun k => ?_) (Ev.now _)
          rw [crossroadsref1_differ.l0, if_pos (by omega), if_pos (by omega), hv, hi, if_pos (by omega), if_pos (by omega), rd_at, if_pos (hz.1 hv0), if_neg hf, if_neg he]
    · rw [if_neg hv0]
      refine Ev.step (fun k => ?_) (ih (j + 1) first hs)
      rw [crossroadsref1_differ.l0, if_pos (by omega), if_pos (by omega), hv, hi, if_pos (by omega), if_pos (by omega), rd_at, if_neg (fun h => hv0 (hz.2 h)), wrap_succ hjl hl]

def rsaid : Option (List Int) → List Int × Bool
  | none => ([], true)
  | some m => (m, false)

theorem rput {n v : Int} {m : List Int} (hn : n ≤ 65536) (hm : Asg n m) (h : litOk n v = true) (f : List Int → Option (List Int × Bool)) :
    (if 0 ≤ (wrap64 ((mx v (wrap64 (-v))) - 1)) then (if (wrap64 ((mx v (wrap64 (-v))) - 1)) < (m.length : Int) then ((some (m.set ((wrap64 ((mx v (wrap64 (-v))) - 1)) : Int).toNat 1 : List Int)).bind fun y156 => (if v < 0 then (if 0 ≤ (wrap64 ((wrap64 (-v)) - 1)) then (if (wrap64 ((wrap64 (-v)) - 1)) < (m.length : Int) then (f (y156.set ((wrap64 ((wrap64 (-v)) - 1)) : Int).toNat (-1))) else (none)) else (none)) else (f y156))) else (none)) else (none)) = f (put m v) := by
  obtain ⟨hi, hp, h0⟩ := ref_idx hn hm h
  obtain ⟨g1, g2⟩ := set_is hn hm h
  rw [hi, if_pos (by omega), if_pos (by omega), Option.bind_some]
  by_cases hv : v < 0
  · obtain ⟨a, b, d⟩ := g2 hv
    rw [if_pos hv, if_pos a, if_pos b]
    congr 1
    obtain ⟨_, he, h1, _, _⟩ := pos_lt hn hm h
    have e : (wrap64 (wrap64 (-v) - 1)).toNat = pos v := by rw [idx_neg h1 hv, ← he]; simp
    rw [e]
    unfold put
    rw [if_pos hv]
    simp [List.set_set]
  · rw [if_neg hv]
    congr 1
    unfold put
    rw [if_neg hv]
    simp

theorem ref_l2 {n : Int} (hn : n ≤ 65536) {f : List (List Int)} (hc : Came f) (hf : ∀ c ∈ f, ∀ v ∈ c, litOk n v = true) (r : List Int × Bool) (m : List Int) (change : Bool) (i : Nat) (c : List Int) (hm : Asg n m) (hil : i < f.length) (hci : rd_L1 f (i : Int) = c) (hcm : c ∈ f)
    (hend : ∀ ok o, anyHolds m c = ok → openLast m 0 c = o → Ev (fun k => if ok = true then (crossroadsref1_Unit.j3 k f m change i o true) else ((crossroadsref1_differ.f k c m).bind fun t155 => (crossroadsref1_Unit.j3 k f m change i o t155))) r) :
    ∀ (s : List Int) (j : Nat) (ok : Bool) (o : Int), c.drop j = s → (ok || anyHolds m s) = anyHolds m c → openLast m o s = openLast m 0 c → Ev (fun k => crossroadsref1_Unit.l2 k f m change i ok o (j : Int)) r := by
  intro s
  induction s with
  | nil =>
    intro j ok o hj hok ho
    refine Ev.step (fun k => ?_) (hend ok o (by rw [← hok]; simp [anyHolds]) (by rw [← ho]; rfl))
    rw [crossroadsref1_Unit.l2, if_pos (by omega), if_pos (by omega), hci, if_neg (drop_end hj)]
  | cons v s ih =>
    intro j ok o hj hok ho
    obtain ⟨hjl, hv, hs⟩ := rd_cons hj
    have hvm : v ∈ c := by rw [← List.take_append_drop j c, hj]; simp
    obtain ⟨hi, hp, h0⟩ := ref_idx hn hm (hf c hcm v hvm)
    have hz := @val_zero n v m
    have ha : anyHolds m (v :: s) = (decide (val m v = 1) || anyHolds m s) := by simp [anyHolds]
    have hl := (hc.rows c hcm).1
    rw [ha] at hok
    rw [openLast] at ho
    by_cases hv0 : val m v = 0
    · rw [if_pos hv0] at ho
      rw [decide_eq_false (by omega : ¬ val m v = 1), Bool.false_or] at hok
      cases ok with
      | true =>
        refine Ev.step (fun k => ?_) (ih (j + 1) true v hs hok ho)
        rw [crossroadsref1_Unit.l2, if_pos (by omega), if_pos (by omega), hci, if_pos (by omega), if_pos (by omega), hv, hi, if_pos (by omega), if_pos (by omega), rd_at, if_pos (hz.1 hv0), if_pos rfl, wrap_succ hjl hl]
      | false =>
        refine Ev.step (fun k => ?_) (ih (j + 1) false v hs hok ho)
        rw [crossroadsref1_Unit.l2, if_pos (by omega), if_pos (by omega), hci, if_pos (by omega), if_pos (by omega), hv, hi, if_pos (by omega), if_pos (by omega), rd_at, if_pos (hz.1 hv0), if_neg (by decide), wrap_succ hjl hl]
    · rw [if_neg hv0] at ho
      have h1 := val_one hm h0 (fun h => hv0 (hz.2 h))
      cases ok with
      | true =>
        refine Ev.step (fun k => ?_) (ih (j + 1) true o hs (by rw [← hok]; simp) ho)
        rw [crossroadsref1_Unit.l2, if_pos (by omega), if_pos (by omega), hci, if_pos (by omega), if_pos (by omega), hv, hi, if_pos (by omega), if_pos (by omega), rd_at, if_neg (fun h => hv0 (hz.2 h)), if_pos rfl, wrap_succ hjl hl]
      | false =>
        rw [Bool.false_or, h1] at hok
        refine Ev.step (fun k => ?_) (ih (j + 1) _ o hs hok ho)
        rw [crossroadsref1_Unit.l2, if_pos (by omega), if_pos (by omega), hci, if_pos (by omega), if_pos (by omega), hv, hi, if_pos (by omega), if_pos (by omega), rd_at, if_neg (fun h => hv0 (hz.2 h)), if_neg (by decide), wrap_succ hjl hl]

theorem ref_pass {n : Int} (hn : n ≤ 65536) {f : List (List Int)} (hc : Came f) (hf : ∀ c ∈ f, ∀ v ∈ c, litOk n v = true) (r : List Int × Bool) :
    ∀ (s : List (List Int)) (i : Nat) (m : List Int) (change : Bool), f.drop i = s → Asg n m →
      (pass m change s = none → r = rsaid none) → (∀ m' b, pass m change s = some (m', b) → Ev (fun k => if b = true then (crossroadsref1_Unit.l0 k f m') else (some (m', false))) r) → Ev (fun k => crossroadsref1_Unit.l1 k f m change (i : Int)) r := by
  intro s
  induction s with
  | nil =>
    intro i m change hi hm _ hr
    refine Ev.step (fun k => ?_) (hr m change rfl)
    rw [crossroadsref1_Unit.l1, if_neg (drop_end hi)]
  | cons c s ih =>
    intro i m change hi hm hbad hr
    obtain ⟨hil, hci, hs⟩ := rdL_cons hi
    have hcm : c ∈ f := by rw [← List.take_append_drop i f, hi]; simp
    have hl := last_says m c 0
    rw [pass, hl] at hbad hr
    refine Ev.step (f := fun k => crossroadsref1_Unit.l2 k f m change i false 0 ((0 : Nat) : Int)) (fun k => ?_) (ref_l2 hn hc hf r m change i c hm hil hci hcm ?_ c 0 false 0 rfl (by simp) rfl)
    · rw [crossroadsref1_Unit.l1, if_pos (by omega)]; rfl
    · intro ok o hok ho
      rw [hok, ho] at hbad hr
      have hd : Ev (fun k => crossroadsref1_differ.f k c m) (differ m 0 c) := differ_is hn hm c (hc.rows c hcm).1 (hf c hcm) c 0 0 rfl
      have skip : (pass m change s = none → r = rsaid none) → (∀ m' b, pass m change s = some (m', b) → Ev (fun k => if b = true then (crossroadsref1_Unit.l0 k f m') else (some (m', false))) r) → Ev (fun k => crossroadsref1_Unit.j3 k f m change i o true) r := by
        intro h1 h2
        refine Ev.step (fun k => ?_) (ih (i + 1) m change hs hm h1 h2)
        rw [crossroadsref1_Unit.j3, if_pos rfl, wrap_succ hil hc.len]
      cases ok with
      | true =>
        simp only [Bool.true_or, if_true] at hbad hr
        refine Ev.congr (fun k => ?_) (skip hbad hr)
        rw [if_pos rfl]
      | false =>
        refine Ev.congr (f := fun k => (crossroadsref1_differ.f k c m).bind fun t155 => (crossroadsref1_Unit.j3 k f m change i o t155)) (fun k => by rw [if_neg (by decide)]) (Ev.bind hd ?_)
        rw [Bool.false_or] at hbad hr
        cases hdd : differ m 0 c with
        | true =>
          rw [hdd] at hbad hr
          simp only [if_true] at hbad hr
          exact skip hbad hr
        | false =>
          rw [hdd] at hbad hr
          simp only [Bool.false_eq_true, if_false] at hbad hr
          by_cases ho0 : o = 0
          · subst ho0
            simp at hbad
            rw [hbad]
            refine Ev.step (fun k => ?_) (Ev.now _)
            rw [crossroadsref1_Unit.j3, if_neg (by decide), if_pos rfl]; rfl
          · have hne : (o != 0) = true := by simpa using ho0
            rw [if_pos hne, if_neg ho0] at hbad hr
            have hlm : o ∈ c := by
              have h3 := last_lit m c 0
              rw [hl, hok, hdd, ho] at h3
              simp only [Bool.false_or, Bool.false_eq_true, if_false] at h3
              rcases h3 with h | h | h
              · exact absurd h ho0
              · exact absurd h ho0
              · exact h.1
            have hlo := hf c hcm o hlm
            refine Ev.step (fun k => ?_) (ih (i + 1) _ true hs (put_asg hm) hbad hr)
            rw [crossroadsref1_Unit.j3, if_neg (by decide), if_neg ho0, rput hn hm hlo (fun y => crossroadsref1_Unit.l1 k f y true (wrap64 ((i : Int) + 1))), wrap_succ hil hc.len]

theorem ref_l0 {n : Int} (hn : n ≤ 65536) {f : List (List Int)} (hc : Came f) (hf : ∀ c ∈ f, ∀ v ∈ c, litOk n v = true) {m : List Int} {r : Option (List Int)} (hr : Runs f m r) (hm : Asg n m) : Ev (fun k => crossroadsref1_Unit.l0 k f m) (rsaid r) := by
  induction hr with
  | bad hp =>
    refine Ev.step (fun k => ?_) (ref_pass hn hc hf (rsaid none) f 0 _ false rfl hm (fun _ => rfl) (fun m' b h => by rw [hp] at h; cases h))
    rw [crossroadsref1_Unit.l0]; rfl
  | done hp =>
    rename_i m0 m1
    refine Ev.step (fun k => ?_) (ref_pass hn hc hf (rsaid (some m1)) f 0 _ false rfl hm (fun h => by rw [hp] at h; cases h) (fun m' b h => ?_))
    · rw [crossroadsref1_Unit.l0]; rfl
    · rw [hp] at h
      obtain ⟨rfl, rfl⟩ := Prod.mk.inj (Option.some.inj h)
      refine Ev.congr (fun k => ?_) (Ev.now _)
      rw [if_neg (by decide)]; rfl
  | again hp _ ih =>
    rename_i m0 m1 r1 hr1
    have hm1 := (pass_ok hn f _ false _ true hm hf hp).1
    refine Ev.step (fun k => ?_) (ref_pass hn hc hf _ f 0 _ false rfl hm (fun h => by rw [hp] at h; cases h) (fun m' b h => ?_))
    · rw [crossroadsref1_Unit.l0]; rfl
    · rw [hp] at h
      obtain ⟨rfl, rfl⟩ := Prod.mk.inj (Option.some.inj h)
      refine Ev.congr (fun k => ?_) (ih hm1)
      rw [if_pos rfl]

theorem ref_is {n : Int} {f : List (List Int)} {m : List Int} (hc : Came f) (hml : m.length * 8 ≤ 140737488351232) {r : Option (List Int)} (h : fineB n f m = true) (hr : Runs f m r) : Ev (fun k => crossroadsref1_Unit.f k n f m) (rsaid r) := by
  obtain ⟨h0, h1, h2, h3⟩ := fine_asg h
  unfold crossroadsref1_Unit.f
  refine Ev.congr (fun k => ?_) (ref_l0 h1 hc h2 hr h3)
  rw [if_pos (by simp; omega), List.nil_append]
end Go.Proofs.Ytpjnacblaipljaa.Lem
