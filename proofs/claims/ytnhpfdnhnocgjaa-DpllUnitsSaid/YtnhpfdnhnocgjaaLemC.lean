/- Joined by a program of this session out of: LemB, LemC. -/
import Derived.Test.YtnhpfdnhnocgjaaLemA
import Derived.Test.YtnhpfdnhnocgjaaDpF
import Derived.Test.YtnhpfdnhnocgjaaHpQ
/- What the reference's Eval answers, in plain words. -/
namespace Go.Proofs.Ytnhpfdnhnocgjaa.Lem
open Go.RowKit Go.Proofs.Ytnhpfdnhnocgjaa.G Go.Proofs.Ytnhpfdnhnocgjaa.P Go.Proofs.Ytnhpfdnhnocgjaa.D Go.Proofs.YtnhpfdnhnocgjaaW.PrintWords Go.Proofs.YtnhpfdnhnocgjaaW.PrintLast Go.Proofs.YtnhpfdnhnocgjaaW.PrintMore
def holdsB (m : List Bool) (v : Int) : Bool :=
  if v = -9223372036854775808 ∨ v = 0 then false else (decide (num0 v ≤ m.length) && m.getD (num0 v - 1).toNat false) == decide (v > 0)
def evalB (m : List Bool) (f : List (List Int)) : Bool := f.all fun c => c.any (holdsB m)
theorem mx_num {v : Int} (h : W64 v) (h0 : v ≠ -9223372036854775808) : mx v (wrap64 (-v)) = num0 v := by
  unfold W64 at h
  have : wrap64 (-v) = -v := by unfold wrap64; omega
  rw [this]
  unfold mx num0
  split <;> split <;> omega
theorem num_num0 {v : Int} (h : W64 v) : num v = if v = -9223372036854775808 then 0 else num0 v := by
  rw [num_val h]; rfl
theorem rholds_is {v : Int} {m : List Bool} (h : W64 v) (hm : m.length ≤ 140737488351232) : crossroadsref1_Holds.f v m = some (holdsB m v) := by
  unfold crossroadsref1_Holds.f holdsB
  by_cases h0 : v = -9223372036854775808
  · subst h0
    rw [if_pos (by unfold mx wrap64; omega), if_pos (Or.inl rfl)]
  · rw [mx_num h h0]
    unfold W64 at h
    by_cases h1 : v = 0
    · subst h1
      rw [if_pos (show num0 0 < 1 by decide), if_pos (Or.inr rfl)]
    · have hn : 1 ≤ num0 v := by unfold num0; split <;> omega
      rw [if_neg (show ¬ num0 v < 1 by omega), if_neg (show ¬ (v = -9223372036854775808 ∨ v = 0) by omega)]
      by_cases h2 : num0 v ≤ (m.length : Int)
      · have hw : wrap64 (num0 v - 1) = num0 v - 1 := by unfold wrap64; omega
        rw [if_pos h2, hw, if_pos (by omega), if_pos (by omega), decide_eq_true h2, Bool.true_and]
        rfl
      · rw [if_neg h2, decide_eq_false h2, Bool.false_and]
theorem reval_l1 {f : List (List Int)} {m : List Bool} (hf : Came f) (hm : m.length ≤ 140737488351232) (i : Nat) (hi : i < f.length) (b : Bool) (c : List Int) (hci : rd_L1 f (i : Int) = c) (hc : c ∈ f) (hr : Ev (fun k => crossroadsref1_Eval.l0 k f m ((i + 1 : Nat) : Int)) b) :
    ∀ (s : List Int) (j : Nat) (ok : Bool), c.drop j = s → Ev (fun k => crossroadsref1_Eval.l1 k f m i ok (j : Int)) ((ok || s.any (holdsB m)) && b) := by
  intro s
  induction s with
  | nil =>
    intro j ok hj
    rw [List.any_nil, Bool.or_false]
    cases ok with
    | true =>
      rw [Bool.true_and]
      refine Ev.step (fun k => ?_) hr
      rw [crossroadsref1_Eval.l1, if_pos (by omega), if_pos (by omega), hci, if_neg (drop_end hj), if_pos rfl, wrap_succ hi hf.len]
    | false =>
      rw [Bool.false_and]
      refine Ev.step (fun k => ?_) (Ev.now false)
      rw [crossroadsref1_Eval.l1, if_pos (by omega), if_pos (by omega), hci, if_neg (drop_end hj), if_neg (by decide)]
  | cons v s ih =>
    intro j ok hj
    obtain ⟨hjl, hv, hs⟩ := rd_cons hj
    have hlen := (hf.rows c hc).1
    have hvm : v ∈ c := by rw [← List.take_append_drop j c, hj]; simp
    cases ok with
    | true =>
      rw [Bool.true_or]
      have := ih (j + 1) true hs
      rw [Bool.true_or] at this
      refine Ev.step (fun k => ?_) this
      rw [crossroadsref1_Eval.l1, if_pos (by omega), if_pos (by omega), hci, if_pos (by omega), if_pos rfl, wrap_succ hjl hlen]
    | false =>
      have := ih (j + 1) (holdsB m v) hs
      rw [List.any_cons, Bool.false_or]
      refine Ev.step (fun k => ?_) this
      rw [crossroadsref1_Eval.l1, if_pos (by omega), if_pos (by omega), hci, if_pos (by omega), if_neg (by decide), if_pos (by omega), hv, rholds_is ((hf.rows c hc).2 v hvm) hm, Option.bind_some, wrap_succ hjl hlen]
theorem reval_l0 {f : List (List Int)} {m : List Bool} (hf : Came f) (hm : m.length ≤ 140737488351232) : ∀ (s : List (List Int)) (i : Nat), f.drop i = s → Ev (fun k => crossroadsref1_Eval.l0 k f m (i : Int)) (evalB m s) := by
  intro s
  induction s with
  | nil =>
    intro i hi
    refine Ev.step (fun k => ?_) (Ev.now true)
    rw [crossroadsref1_Eval.l0, if_neg (drop_end hi)]
  | cons c s ih =>
    intro i hi
    obtain ⟨hil, hc, hs⟩ := rdL_cons hi
    have hcm : c ∈ f := by rw [← List.take_append_drop i f, hi]; simp
    have h := reval_l1 hf hm i hil _ c hc hcm (ih (i + 1) hs) c 0 false rfl
    rw [Bool.false_or] at h
    refine Ev.step (f := fun k => crossroadsref1_Eval.l1 k f m i false ((0 : Nat) : Int)) (fun k => ?_) h
    rw [crossroadsref1_Eval.l0, if_pos (by omega)]; rfl
theorem reval_is {f : List (List Int)} {m : List Bool} (hf : Came f) (hm : m.length ≤ 140737488351232) : Ev (fun k => crossroadsref1_Eval.f k f m) (evalB m f) := reval_l0 hf hm f 0 rfl
theorem holds_lit {n : Nat} (hn : n ≤ 65536) {m : List Bool} {v : Int} (hv : okL n v) : holdsB m v = lit (S.bitsOf m) v := by
  have h1 := hv.1
  have h2 := hv.2
  have e : num0 v = (v.natAbs : Int) := by unfold num0; split <;> omega
  unfold holdsB lit S.bitsOf
  rw [if_neg (by omega), e, show ((v.natAbs : Int) - 1).toNat = v.natAbs - 1 by omega]
  by_cases hl : v.natAbs ≤ m.length
  · rw [decide_eq_true (show (v.natAbs : Int) ≤ (m.length : Int) by omega), Bool.true_and]
  · rw [decide_eq_false (show ¬ (v.natAbs : Int) ≤ (m.length : Int) by omega), Bool.false_and, List.getD_eq_getElem?_getD, List.getElem?_eq_none (by omega)]; rfl
theorem eval_sat {n : Nat} (hn : n ≤ 65536) {m : List Bool} {F : List (List Int)} (hF : ∀ d ∈ F, ∀ x ∈ d, okL n x) : evalB m F = satF (S.bitsOf m) F := by
  unfold evalB satF
  rw [Bool.eq_iff_iff, List.all_eq_true, List.all_eq_true]
  have e : ∀ c ∈ F, c.any (holdsB m) = satC (S.bitsOf m) c := fun c hc => by
    unfold satC
    rw [Bool.eq_iff_iff, List.any_eq_true, List.any_eq_true]
    exact ⟨fun ⟨x, hx, h⟩ => ⟨x, hx, by rw [← holds_lit hn (hF c hc x hx)]; exact h⟩, fun ⟨x, hx, h⟩ => ⟨x, hx, by rw [holds_lit hn (hF c hc x hx)]; exact h⟩⟩
  exact ⟨fun h c hc => by rw [← e c hc]; exact h c hc, fun h c hc => by rw [e c hc]; exact h c hc⟩
end Go.Proofs.Ytnhpfdnhnocgjaa.Lem
/- What the reference's Sat answers: the number of assignments. -/
namespace Go.Proofs.Ytnhpfdnhnocgjaa.Lem
open Go.RowKit Go.Proofs.Ytnhpfdnhnocgjaa.G Go.Proofs.Ytnhpfdnhnocgjaa.P Go.Proofs.Ytnhpfdnhnocgjaa.D Go.Proofs.YtnhpfdnhnocgjaaW.PrintWords Go.Proofs.YtnhpfdnhnocgjaaW.PrintLast Go.Proofs.YtnhpfdnhnocgjaaW.PrintMore
theorem u64_nat {j : Nat} (hj : j < 100) : IntKind.u64.wrap (j : Int) = (j : Int) := IntWalk.u64_in _ (by omega)
theorem wraps_i62 (n : Int) (h₀ : 0 ≤ n) (h₁ : n < 2 ^ 62) : IntKind.i64.wrap n = n := IntWalk.i64_in _ (by omega)
theorem bit_is {x j : Nat} (hj : j < 60) (hx : x < 2 ^ 60) : ((Go.bits .and .i64 (shr .i64 (x : Int) (IntKind.u64.wrap (j : Int))) 1) == 1) = x.testBit j := by
  rw [u64_nat (by omega)]
  have e : shr .i64 (x : Int) (j : Int) = ((x / 2 ^ j : Nat) : Int) := by
    unfold shr
    rw [Int.toNat_natCast, show min j IntKind.i64.bits = j by show min j 64 = j; omega]
    push_cast
    rfl
  have hlt : x / 2 ^ j < 2 ^ 60 := Nat.lt_of_le_of_lt (Nat.div_le_self _ _) hx
  rw [e, Nat.testBit_eq_decide_div_mod_eq]
  generalize x / 2 ^ j = q at hlt
  have hm := bits_mask .i64 62 (by decide) wraps_i62 1 (by decide) (q : Int) (by omega) (by omega)
  have hm : Go.bits .and .i64 (q : Int) 1 = (q : Int) % 2 := hm
  rw [hm, Bool.eq_iff_iff, beq_iff_eq, decide_eq_true_eq]
  omega
theorem shl_is {N : Nat} (hN : N ≤ 24) : shl .i64 1 (IntKind.u64.wrap (N : Int)) = ((2 ^ N : Nat) : Int) := by
  rw [u64_nat (by omega)]
  unfold shl
  rw [Int.toNat_natCast, show min N IntKind.i64.bits = N by show min N 64 = N; omega, Int.one_mul]
  have : (2 : Nat) ^ N ≤ 2 ^ 24 := Nat.pow_le_pow_right (by decide) hN
  have e : ((2 : Int) ^ N) = ((2 ^ N : Nat) : Int) := by push_cast; rfl
  rw [e]
  generalize 2 ^ N = q at this
  exact IntWalk.i64_in _ (by omega)
/-- The bits of a number, in order. -/
def bitsL (N x : Nat) : List Bool := (List.range N).map fun j => x.testBit j
theorem sat_bits {N x : Nat} {F : List (List Int)} (hF : ∀ d ∈ F, ∀ v ∈ d, okL N v) : satF (S.bitsOf (bitsL N x)) F = satF (asg x) F := by
  unfold satF
  rw [Bool.eq_iff_iff, List.all_eq_true, List.all_eq_true]
  have e : ∀ c ∈ F, satC (S.bitsOf (bitsL N x)) c = satC (asg x) c := fun c hc => by
    unfold satC
    rw [Bool.eq_iff_iff, List.any_eq_true, List.any_eq_true]
    have e2 : ∀ v ∈ c, lit (S.bitsOf (bitsL N x)) v = lit (asg x) v := fun v hv => by
      have h1 := (hF c hc v hv).1
      have h2 := (hF c hc v hv).2
      have hk : S.bitsOf (bitsL N x) v.natAbs = asg x v.natAbs := by
        unfold S.bitsOf bitsL asg
        rw [List.getD_eq_getElem?_getD, List.getElem?_map, List.getElem?_range (by omega)]
        rfl
      unfold lit
      rw [hk]
    exact ⟨fun ⟨v, hv, h⟩ => ⟨v, hv, by rw [← e2 v hv]; exact h⟩, fun ⟨v, hv, h⟩ => ⟨v, hv, by rw [e2 v hv]; exact h⟩⟩
  exact ⟨fun h c hc => by rw [← e c hc]; exact h c hc, fun h c hc => by rw [e c hc]; exact h c hc⟩
theorem sat_l1 {N x : Nat} {F : List (List Int)} (hN : N ≤ 24) (hx : x < 2 ^ 60) (a r : Int) (hr : Ev (fun k => (crossroadsref1_Eval.f k F (bitsL N x)).bind fun t114 => if t114 = true then (crossroadsref1_Sat.l0 k N F (wrap64 (a + 1)) (bitsL N x) (wrap64 ((x : Int) + 1))) else (crossroadsref1_Sat.l0 k N F a (bitsL N x) (wrap64 ((x : Int) + 1)))) r) :
    ∀ (m j : Nat) (sol : List Bool), j + m = N → sol.length = N → (∀ i, i < j → sol[i]? = (bitsL N x)[i]?) → Ev (fun k => crossroadsref1_Sat.l1 k N F a sol (x : Int) (j : Int)) r := by
  intro m
  induction m with
  | zero =>
    intro j sol hj hl hs
    have e : sol = bitsL N x := by
      apply List.ext_getElem?
      intro i
      by_cases hi : i < j
      · exact hs i hi
      · rw [List.getElem?_eq_none (by omega), List.getElem?_eq_none (by unfold bitsL; rw [List.length_map, List.length_range]; omega)]
    subst e
    refine Ev.step (fun k => ?_) hr
    rw [crossroadsref1_Sat.l1, if_neg (by omega)]
  | succ m ih =>
    intro j sol hj hl hs
    refine Ev.step (fun k => ?_) (ih (j + 1) (sol.set j (x.testBit j)) (by omega) (by rw [List.length_set]; exact hl) ?_)
    · have hw : wrap64 ((j : Int) + 1) = ((j + 1 : Nat) : Int) := by unfold wrap64; omega
      rw [crossroadsref1_Sat.l1, if_pos (by omega), if_pos (by rw [u64_nat (by omega)]; omega), if_pos (by omega), if_pos (by omega), bit_is (by omega) hx, hw, Int.toNat_natCast]
    · intro i hi
      by_cases e : j = i
      · subst e
        rw [List.getElem?_set_self (by omega)]
        unfold bitsL
        rw [List.getElem?_map, List.getElem?_range (by omega)]; rfl
      · rw [List.getElem?_set_ne e]
        exact hs i (by omega)
def tailCnt (F : List (List Int)) (x m : Nat) : Nat := (List.range' x m).countP fun y => satF (asg y) F
theorem sat_l0 {N : Nat} {F : List (List Int)} (hN : N ≤ 24) (hc : Came F) (hF : ∀ d ∈ F, ∀ v ∈ d, okL N v) : ∀ (m x a : Nat) (sol : List Bool), x + m = 2 ^ N → a ≤ x → sol.length = N → Ev (fun k => crossroadsref1_Sat.l0 k N F (a : Int) sol (x : Int)) ((a + tailCnt F x m : Nat) : Int) := by
  have hp : (2 : Nat) ^ N ≤ 2 ^ 24 := Nat.pow_le_pow_right (by decide) hN
  intro m
  induction m with
  | zero =>
    intro x a sol hx ha hl
    refine Ev.step (fun k => ?_) (Ev.now _)
    rw [crossroadsref1_Sat.l0, if_pos (by rw [u64_nat (by omega)]; omega), shl_is hN, if_neg (by omega)]
    rfl
  | succ m ih =>
    intro x a sol hx ha hl
    have hlen : (bitsL N x).length = N := by unfold bitsL; rw [List.length_map, List.length_range]
    have hw : wrap64 ((x : Int) + 1) = ((x + 1 : Nat) : Int) := by unfold wrap64; omega
    have hw2 : wrap64 ((a : Int) + 1) = ((a + 1 : Nat) : Int) := by unfold wrap64; omega
    have hev := reval_is (f := F) (m := bitsL N x) hc (by rw [hlen]; omega)
    rw [eval_sat (n := N) (by omega) hF, sat_bits hF] at hev
    have ht : tailCnt F x (m + 1) = (if satF (asg x) F = true then 1 else 0) + tailCnt F (x + 1) m := by
      unfold tailCnt
      rw [List.range'_succ, List.countP_cons]
      omega
    refine Ev.step (f := fun k => crossroadsref1_Sat.l1 k N F (a : Int) sol (x : Int) ((0 : Nat) : Int)) (fun k => ?_) (sat_l1 hN (by omega) _ _ (Ev.bind hev ?_) N 0 sol (by omega) hl (fun i hi => absurd hi (Nat.not_lt_zero _)))
    · rw [crossroadsref1_Sat.l0, if_pos (by rw [u64_nat (by omega)]; omega), shl_is hN, if_pos (by omega)]; rfl
    · rw [hw, hw2]
      cases hs : satF (asg x) F with
      | true =>
        have := ih (x + 1) (a + 1) (bitsL N x) (by omega) (by omega) hlen
        rw [ht, hs, if_pos rfl, show a + (1 + tailCnt F (x + 1) m) = a + 1 + tailCnt F (x + 1) m by omega]
        exact Ev.congr (fun k => if_pos rfl) this
      | false =>
        have := ih (x + 1) a (bitsL N x) (by omega) (by omega) hlen
        rw [ht, hs, if_neg (by decide), Nat.zero_add]
        exact Ev.congr (fun k => if_neg (by decide)) this
theorem sat_is {N : Nat} {F : List (List Int)} (hN : N ≤ 24) (hc : Came F) (hF : ∀ d ∈ F, ∀ v ∈ d, okL N v) : Ev (fun k => crossroadsref1_Sat.f k N F) (cnt N F [] : Int) := by
  have h := sat_l0 hN hc hF (2 ^ N) 0 0 (List.replicate N false) (by omega) (by omega) List.length_replicate
  have e : cnt N F [] = tailCnt F 0 (2 ^ N) := by
    unfold cnt tailCnt
    rw [List.range_eq_range']
    exact countP_congr' fun y _ => by unfold extB; simp
  rw [e]
  rw [Nat.zero_add] at h
  refine Ev.congr (fun k => ?_) h
  unfold crossroadsref1_Sat.f
  rw [if_pos (by omega), if_pos (by omega), Int.toNat_natCast]; rfl
end Go.Proofs.Ytnhpfdnhnocgjaa.Lem
