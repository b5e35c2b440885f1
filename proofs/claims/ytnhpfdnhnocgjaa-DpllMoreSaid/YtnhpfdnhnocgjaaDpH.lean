/- Joined by a program of this session out of: DpG, DpH. -/
import Derived.Test.YtnhpfdnhnocgjaaDpE
/- What the laws of layer 6 say of formulas and of how many assignments hold: plain. -/
namespace Go.Proofs.Ytnhpfdnhnocgjaa.D
set_option linter.unusedVariables false
set_option linter.unusedSimpArgs false
theorem countP_le' {α : Type} {p q : α → Bool} {l : List α} (h : ∀ x ∈ l, p x = true → q x = true) : l.countP p ≤ l.countP q := by
  induction l with
  | nil => exact Nat.le_refl _
  | cons a l ih =>
    rw [List.countP_cons, List.countP_cons]
    have h1 := ih fun x hx => h x (List.mem_cons_of_mem _ hx)
    have h2 := h a List.mem_cons_self
    cases hp : p a with
    | false => simp; omega
    | true => rw [h2 hp]; simp; exact h1
theorem cnt_more (n : Nat) (F : List (List Int)) (c : List Int) (t : List Int) : cnt n (F ++ [c]) t ≤ cnt n F t := by
  unfold cnt
  refine countP_le' fun x _ h => ?_
  rw [Bool.and_eq_true, satF_append, Bool.and_eq_true] at h
  rw [Bool.and_eq_true]
  exact ⟨h.1.1, h.2⟩
theorem cnt_le (n : Nat) (F : List (List Int)) (t : List Int) : cnt n F t ≤ 2 ^ n := by
  unfold cnt
  exact Nat.le_trans List.countP_le_length (by rw [List.length_range]; exact Nat.le_refl _)
theorem ext_neg {n : Nat} (s : Nat → Bool) (c : List Int) (hc : ∀ x ∈ c, okL n x) : extB s (c.map fun x => -x) = !satC s c := by
  unfold extB satC
  induction c with
  | nil => rfl
  | cons x c ih =>
    rw [List.map_cons, List.all_cons, List.any_cons, ih fun y hy => hc y (List.mem_cons_of_mem _ hy), lit_neg s (hc x List.mem_cons_self).1, Bool.not_or]
/-- One that was found, forbidden: just one less. -/
theorem cnt_forbid {n : Nat} {F : List (List Int)} {c : List Int} (hl : c.length = n) (hn : (c.map Int.natAbs).Nodup) (hc : ∀ x ∈ c, okL n x) (hs : ∀ s, Ext s (c.map fun x => -x) → satF s F = true) : cnt n F [] = cnt n (F ++ [c]) [] + 1 := by
  have h1 : cnt n F [] = cnt n (F ++ [c]) [] + cnt n F (c.map fun x => -x) := by
    unfold cnt
    refine countP_add fun k _ => ?_
    rw [satF_append, ext_neg (asg k) c hc]
    have e : satF (asg k) [c] = satC (asg k) c := by unfold satF; simp
    have e2 : extB (asg k) [] = true := rfl
    rw [e, e2]
    cases satF (asg k) F <;> cases satC (asg k) c <;> decide
  have e : (c.map fun x => -x).map Int.natAbs = c.map Int.natAbs := by
    rw [List.map_map]
    refine List.map_congr_left fun x _ => ?_
    show (-x).natAbs = x.natAbs
    omega
  have h2 : cnt n F (c.map fun x => -x) = 1 := by
    rw [cnt_all hs, cntE_eq n _ (by rw [e]; exact hn) (fun x hx => by
      obtain ⟨y, hy, rfl⟩ := List.mem_map.1 hx
      exact (hc y hy).neg), List.length_map, hl, Nat.sub_self]
  rw [h1, h2]
theorem cntE_one {n : Nat} {t : List Int} (hl : t.length = n) (hn : (t.map Int.natAbs).Nodup) (ho : ∀ x ∈ t, okL n x) : cntE n t = 1 ∧ ∃ x, Ext (asg x) t := by
  have h : cntE n t = 1 := by rw [cntE_eq n t hn ho, hl, Nat.sub_self]
  refine ⟨h, ?_⟩
  have h' := h
  unfold cntE at h'
  have hp : 0 < (List.range (2 ^ n)).countP fun x => extB (asg x) t := by omega
  obtain ⟨x, _, hx⟩ := List.countP_pos_iff.1 hp
  exact ⟨x, extB_iff.1 hx⟩
/-- What stands under another name, turned or not. -/
theorem cnt_turn {n : Nat} {F G : List (List Int)} (f : Int → Int) (hok : ∀ x, okL n x → okL n (f x)) (hneg : ∀ x, okL n x → f (-x) = -(f x)) (hinj : ∀ x y, okL n x → okL n y → (f x).natAbs = (f y).natAbs → x.natAbs = y.natAbs)
    (hFG : ∀ s s' : Nat → Bool, (∀ x, okL n x → lit s x = lit s' (f x)) → satF s F = satF s' G) :
    ∀ (m : Nat) (t : List Int), m + t.length = n → t.map Int.natAbs = (List.range t.length).map (fun i => i + 1) → cnt n F t = cnt n G (t.map f) := by
  have hnd : ∀ (t : List Int), t.length ≤ n → t.map Int.natAbs = (List.range t.length).map (fun i => i + 1) → (t.map Int.natAbs).Nodup ∧ (∀ x ∈ t, okL n x) := fun t hl ht => by
    refine ⟨?_, fun x hx => ?_⟩
    · rw [ht]
      exact List.pairwise_map.2 (List.Pairwise.imp (fun h => by omega) (List.nodup_range (n := t.length)))
    · have : x.natAbs ∈ t.map Int.natAbs := List.mem_map.2 ⟨x, hx, rfl⟩
      rw [ht] at this
      obtain ⟨i, hi, e⟩ := List.mem_map.1 this
      have := List.mem_range.1 hi
      exact ⟨by omega, by omega⟩
  have hin : ∀ (t : List Int), t.map Int.natAbs = (List.range t.length).map (fun i => i + 1) → ∀ k, 1 ≤ k → k ≤ t.length → ∃ y ∈ t, y.natAbs = k := fun t ht k h1 h2 => by
    have : k ∈ t.map Int.natAbs := by rw [ht]; exact List.mem_map.2 ⟨k - 1, List.mem_range.2 (by omega), by omega⟩
    obtain ⟨y, hy, e⟩ := List.mem_map.1 this
    exact ⟨y, hy, e⟩
  intro m
  induction m with
  | zero =>
    intro t hl ht
    have hl : t.length = n := by omega
    obtain ⟨n1, o1⟩ := hnd t (by omega) ht
    have o2 : ∀ x ∈ t.map f, okL n x := fun x hx => by
      obtain ⟨y, hy, rfl⟩ := List.mem_map.1 hx
      exact hok y (o1 y hy)
    have n2 : ((t.map f).map Int.natAbs).Nodup := by
      rw [List.map_map]
      refine List.pairwise_map.2 ?_
      have n1' := List.pairwise_map.1 n1
      refine List.Pairwise.imp_of_mem (fun {a b} ha hb h => ?_) n1'
      exact fun e => h (hinj a b (o1 a ha) (o1 b hb) e)
    obtain ⟨c1, x1, hx1⟩ := cntE_one hl n1 o1
    obtain ⟨c2, x2, hx2⟩ := cntE_one (t := t.map f) (by rw [List.length_map]; exact hl) n2 o2
    have hag : ∀ s s' : Nat → Bool, Ext s t → Ext s' (t.map f) → satF s F = satF s' G := fun s s' h1 h2 => by
      refine hFG s s' fun x hx => ?_
      obtain ⟨y, hy, e⟩ := hin t ht x.natAbs (by have := hx.1; omega) (by have := hx.2; omega)
      have q1 := h1 y hy
      have q2 := h2 (f y) (List.mem_map.2 ⟨y, hy, rfl⟩)
      have : y = x ∨ y = -x := by omega
      rcases this with rfl | rfl
      · rw [q1, q2]
      · rw [lit_neg s hx.1] at q1
        rw [hneg x hx, lit_neg s' (hok x hx).1] at q2
        cases h3 : lit s x <;> cases h4 : lit s' (f x)
        · rfl
        · rw [h4] at q2; cases q2
        · rw [h3] at q1; cases q1
        · rfl
    cases hb : satF (asg x1) F with
    | true =>
      rw [cnt_all (F := F) (t := t) fun s hs => by rw [hag s _ hs hx2, ← hag _ _ hx1 hx2]; exact hb, cnt_all (F := G) (t := t.map f) fun s hs => by rw [← hag _ s hx1 hs]; exact hb, c1, c2]
    | false =>
      rw [cnt_none (F := F) (t := t) fun s h1 hs => (by rw [hag s _ hs hx2, ← hag _ _ hx1 hx2, hb] at h1; cases h1), cnt_none (F := G) (t := t.map f) fun s h1 hs => by rw [← hag _ s hx1 hs, hb] at h1; cases h1]
  | succ m ih =>
    intro t hl ht
    have hx : okL n ((t.length : Int) + 1) := ⟨by omega, by omega⟩
    have hstep : ∀ y : Int, y.natAbs = t.length + 1 → cnt n F (t ++ [y]) = cnt n G (t.map f ++ [f y]) := fun y hy => by
      have := ih (t ++ [y]) (by rw [List.length_append, List.length_singleton]; omega) (by rw [List.length_append, List.length_singleton, List.range_succ, List.map_append, List.map_append, ht, List.map_singleton, List.map_singleton, hy])
      rwa [List.map_append, List.map_singleton] at this
    rw [cnt_split n F t hx.1, cnt_split n G (t.map f) (hok _ hx).1, hstep _ (by omega), hstep _ (by omega), hneg _ hx]
/-- An assignment is one of those that are counted. -/
theorem sat_cnt {n : Nat} {F : List (List Int)} (hF : ∀ d ∈ F, ∀ x ∈ d, okL n x) : (∃ s, satF s F = true) ↔ 0 < cnt n F [] := by
  constructor
  · rintro ⟨s, hs⟩
    obtain ⟨t, ht⟩ : ∃ t : List Int, t = (List.range n).map (fun k : Nat => if s (k + 1) = true then ((k : Int) + 1) else -((k : Int) + 1)) := ⟨_, rfl⟩
    have hl : t.length = n := by rw [ht, List.length_map, List.length_range]
    have hna : t.map Int.natAbs = (List.range n).map (fun i => i + 1) := by
      rw [ht, List.map_map]
      refine List.map_congr_left fun k _ => ?_
      show Int.natAbs (if s (k + 1) = true then ((k : Int) + 1) else -((k : Int) + 1)) = k + 1
      split <;> omega
    have hnd : (t.map Int.natAbs).Nodup := by
      rw [hna]
      exact List.pairwise_map.2 (List.Pairwise.imp (fun h => by omega) (List.nodup_range (n := n)))
    have hmem : ∀ k, k < n → (if s (k + 1) = true then ((k : Int) + 1) else -((k : Int) + 1)) ∈ t := fun k hk => by rw [ht]; exact List.mem_map.2 ⟨k, List.mem_range.2 hk, rfl⟩
    have ho : ∀ x ∈ t, okL n x := fun x hx => by
      rw [ht] at hx
      obtain ⟨k, hk, rfl⟩ := List.mem_map.1 hx
      have := List.mem_range.1 hk
      unfold okL
      split <;> omega
    obtain ⟨_, x, hx⟩ := cntE_one hl hnd ho
    have hag : ∀ v, 1 ≤ v → v ≤ n → asg x v = s v := fun v h1 h2 => by
      have h3 := hx _ (hmem (v - 1) (by omega))
      rw [show v - 1 + 1 = v by omega] at h3
      unfold lit at h3
      cases hv : s v with
      | true =>
        rw [hv, if_pos rfl, decide_eq_true (show (0 : Int) < ((v - 1 : Nat) : Int) + 1 by omega), show (((v - 1 : Nat) : Int) + 1).natAbs = v by omega] at h3
        simpa using h3
      | false =>
        rw [hv, if_neg (by decide), decide_eq_false (show ¬ (0 : Int) < -(((v - 1 : Nat) : Int) + 1) by omega), show (-(((v - 1 : Nat) : Int) + 1)).natAbs = v by omega] at h3
        simpa using h3
    have hsx : satF (asg x) F = true := by
      rw [satF_iff] at hs ⊢
      intro d hd
      have := hs d hd
      rw [satC_iff] at this ⊢
      obtain ⟨y, hy, h⟩ := this
      have hk := hF d hd y hy
      refine ⟨y, hy, ?_⟩
      unfold lit at h ⊢
      rw [hag _ (by have := hk.1; omega) hk.2]
      exact h
    -- a number below 2 ^ n
    have hp : cnt n F t = cntE n t := cnt_all fun s' hs' => by
      rw [satF_iff] at hsx ⊢
      intro d hd
      have := hsx d hd
      rw [satC_iff] at this ⊢
      obtain ⟨y, hy, h⟩ := this
      have hk := hF d hd y hy
      refine ⟨y, hy, ?_⟩
      have hm := hmem (y.natAbs - 1) (by have := hk.1; have := hk.2; omega)
      rw [show y.natAbs - 1 + 1 = y.natAbs by have := hk.1; omega] at hm
      have h5 := hs' _ hm
      unfold lit at h h5 ⊢
      rw [hag _ (by have := hk.1; omega) hk.2] at h
      cases hv : s y.natAbs with
      | true =>
        rw [hv] at h
        rw [hv, if_pos rfl, decide_eq_true (show (0 : Int) < ((y.natAbs - 1 : Nat) : Int) + 1 by omega), show (((y.natAbs - 1 : Nat) : Int) + 1).natAbs = y.natAbs by have := hk.1; omega] at h5
        rw [eq_of_beq h5]; exact h
      | false =>
        rw [hv] at h
        rw [hv, if_neg (by decide), decide_eq_false (show ¬ (0 : Int) < -(((y.natAbs - 1 : Nat) : Int) + 1) by omega), show (-(((y.natAbs - 1 : Nat) : Int) + 1)).natAbs = y.natAbs by have := hk.1; omega] at h5
        rw [eq_of_beq h5]; exact h
    have hle : cnt n F t ≤ cnt n F [] := by
      unfold cnt
      refine countP_le' fun k _ h => ?_
      rw [Bool.and_eq_true] at h ⊢
      exact ⟨h.1, rfl⟩
    rw [hp, (cntE_one hl hnd ho).1] at hle
    exact hle
  · intro h
    unfold cnt at h
    obtain ⟨x, _, hx⟩ := List.countP_pos_iff.1 h
    rw [Bool.and_eq_true] at hx
    exact ⟨asg x, hx.1⟩
end Go.Proofs.Ytnhpfdnhnocgjaa.D
/- Variables turned round; pigeons and holes: plain. -/
namespace Go.Proofs.Ytnhpfdnhnocgjaa.D
set_option linter.unusedVariables false
set_option linter.unusedSimpArgs false
def turn (n : Nat) (b : Int → Bool) (x : Int) : Int := if decide (0 < x) = b ((n : Int) + 1 - x.natAbs) then -((n : Int) + 1 - x.natAbs) else (n : Int) + 1 - x.natAbs
def turnF (n : Nat) (b : Int → Bool) (F : List (List Int)) : List (List Int) := (F.map fun c => c.map (turn n b)).reverse
section
variable {n : Nat} {b : Int → Bool} {x y : Int} {F : List (List Int)}
theorem turn_abs (h : okL n x) : (turn n b x).natAbs = n + 1 - x.natAbs := by
  have h1 := h.1
  have h2 := h.2
  unfold turn
  split <;> omega
theorem turn_ok (h : okL n x) : okL n (turn n b x) := by
  have h3 := turn_abs (b := b) h
  have h1 := h.1
  have h2 := h.2
  exact ⟨by omega, by omega⟩
theorem turn_neg (h : okL n x) : turn n b (-x) = -(turn n b x) := by
  have h1 := h.1
  have h2 := h.2
  unfold turn
  rw [show (-x).natAbs = x.natAbs by omega]
  by_cases hp : 0 < x
  · rw [decide_eq_true hp, decide_eq_false (show ¬ 0 < -x by omega)]
    cases b ((n : Int) + 1 - x.natAbs) <;> simp
  · rw [decide_eq_false hp, decide_eq_true (show 0 < -x by omega)]
    cases b ((n : Int) + 1 - x.natAbs) <;> simp
theorem turn_inj (hx : okL n x) (hy : okL n y) (h : (turn n b x).natAbs = (turn n b y).natAbs) : x.natAbs = y.natAbs := by
  rw [turn_abs hx, turn_abs hy] at h
  have := hx.2
  have := hy.2
  omega
theorem turn_sat (hF : ∀ d ∈ F, ∀ x ∈ d, okL n x) {s s' : Nat → Bool} (h : ∀ x, okL n x → lit s x = lit s' (turn n b x)) : satF s F = satF s' (turnF n b F) := by
  rw [Bool.eq_iff_iff, satF_iff, satF_iff]
  have e : ∀ c ∈ F, satC s c = satC s' (c.map (turn n b)) := fun c hc => by
    rw [Bool.eq_iff_iff, satC_iff, satC_iff]
    constructor
    · rintro ⟨x, hx, hl⟩
      exact ⟨_, List.mem_map.2 ⟨x, hx, rfl⟩, by rw [← h x (hF c hc x hx)]; exact hl⟩
    · rintro ⟨y, hy, hl⟩
      obtain ⟨x, hx, rfl⟩ := List.mem_map.1 hy
      exact ⟨x, hx, by rw [h x (hF c hc x hx)]; exact hl⟩
  unfold turnF
  constructor
  · intro hs d hd
    obtain ⟨c, hc, rfl⟩ := List.mem_map.1 (List.mem_reverse.1 hd)
    rw [← e c hc]; exact hs c hc
  · intro hs c hc
    rw [e c hc]
    exact hs _ (List.mem_reverse.2 (List.mem_map.2 ⟨c, hc, rfl⟩))
theorem turnF_ok (hF : ∀ d ∈ F, ∀ x ∈ d, okL n x) : ∀ d ∈ turnF n b F, ∀ x ∈ d, okL n x := by
  unfold turnF
  intro d hd x hx
  obtain ⟨c, hc, rfl⟩ := List.mem_map.1 (List.mem_reverse.1 hd)
  obtain ⟨y, hy, rfl⟩ := List.mem_map.1 hx
  exact turn_ok (hF c hc y hy)
theorem turn_cnt (hF : ∀ d ∈ F, ∀ x ∈ d, okL n x) : cnt n F [] = cnt n (turnF n b F) [] :=
  cnt_turn (turn n b) (fun x hx => turn_ok hx) (fun x hx => turn_neg hx) (fun x y hx hy h => turn_inj hx hy h) (fun s s' h => turn_sat hF h) n [] rfl rfl
theorem turnF_snoc (b : Int → Bool) (c : List Int) (r : List (List Int)) : turnF n b (c :: r) = turnF n b r ++ [c.map (turn n b)] := by
  unfold turnF
  rw [List.map_cons, List.reverse_cons]
theorem turnF_drop (b : Int → Bool) {i : Nat} {c : List Int} (h : F[i]? = some c) : turnF n b (F.drop i) = turnF n b (F.drop (i + 1)) ++ [c.map (turn n b)] := by
  rw [← turnF_snoc]
  congr 1
  have hl := lt_of h
  rw [List.drop_eq_getElem_cons hl]
  congr 1
  rw [List.getElem?_eq_getElem hl] at h
  exact Option.some.inj h
end
/-! ### pigeons -/
def hole (m i t : Nat) : Int := ((i * m + t + 1 : Nat) : Int)
def someH (m i t : Nat) : List Int := (List.range t).map (hole m i)
def pairH (m i k t : Nat) : List Int := [-(hole m i t), -(hole m k t)]
def rowH (m i k t : Nat) : List (List Int) := (List.range t).map (pairH m i k)
def rowsH (m i k : Nat) : List (List Int) := (List.range k).flatMap fun k => rowH m i k m
def pig (m n : Nat) : List (List Int) := (List.range n).flatMap fun i => someH m i m :: rowsH m i i
section
variable {m n : Nat}
theorem someH_succ (m i t : Nat) : someH m i (t + 1) = someH m i t ++ [hole m i t] := by unfold someH; rw [List.range_succ, List.map_append, List.map_singleton]
theorem rowH_succ (m i k t : Nat) : rowH m i k (t + 1) = rowH m i k t ++ [pairH m i k t] := by unfold rowH; rw [List.range_succ, List.map_append, List.map_singleton]
theorem rowsH_succ (m i k : Nat) : rowsH m i (k + 1) = rowsH m i k ++ rowH m i k m := by unfold rowsH; rw [List.range_succ, List.flatMap_append, List.flatMap_singleton]
theorem pig_succ (m n : Nat) : pig m (n + 1) = pig m n ++ [someH m n m] ++ rowsH m n n := by unfold pig; rw [List.range_succ, List.flatMap_append, List.flatMap_singleton, List.append_assoc]; rfl
theorem someH_len (m i t : Nat) : (someH m i t).length = t := by unfold someH; rw [List.length_map, List.length_range]
theorem rowH_len (m i k t : Nat) : (rowH m i k t).length = t := by unfold rowH; rw [List.length_map, List.length_range]
theorem rowsH_len (m i k : Nat) : (rowsH m i k).length = k * m := by
  induction k with
  | zero => unfold rowsH; simp
  | succ k ih => rw [rowsH_succ, List.length_append, ih, rowH_len, Nat.succ_mul]
theorem pig_len (hm : m ≤ 4) : ∀ n, n ≤ 5 → (pig m n).length ≤ 21 * n
  | 0, _ => by unfold pig; simp
  | n + 1, h => by
    have ih := pig_len hm n (by omega)
    have : n * m ≤ 5 * 4 := Nat.mul_le_mul (by omega) hm
    rw [pig_succ, List.length_append, List.length_append, List.length_singleton, rowsH_len]
    omega
theorem hole_le {i t : Nat} (hi : i < n) (ht : t < m) : i * m + t + 1 ≤ n * m := by
  have h1 : (i + 1) * m ≤ n * m := Nat.mul_le_mul_right m hi
  rw [Nat.succ_mul] at h1
  omega
theorem hole_ok {i t : Nat} (hi : i < n) (ht : t < m) : okL (n * m) (hole m i t) ∧ okL (n * m) (-(hole m i t)) := by
  have := hole_le hi ht
  unfold hole okL
  omega
theorem mem_rowsH {m i k : Nat} {d : List Int} : d ∈ rowsH m i k ↔ ∃ j, j < k ∧ ∃ t, t < m ∧ d = pairH m i j t := by
  unfold rowsH
  rw [List.mem_flatMap]
  constructor
  · rintro ⟨j, hj, hd⟩
    unfold rowH at hd
    obtain ⟨t, ht, rfl⟩ := List.mem_map.1 hd
    exact ⟨j, List.mem_range.1 hj, t, List.mem_range.1 ht, rfl⟩
  · rintro ⟨j, hj, t, ht, rfl⟩
    exact ⟨j, List.mem_range.2 hj, by unfold rowH; exact List.mem_map.2 ⟨t, List.mem_range.2 ht, rfl⟩⟩
theorem mem_pig {d : List Int} : d ∈ pig m n ↔ ∃ i, i < n ∧ (d = someH m i m ∨ ∃ j, j < i ∧ ∃ t, t < m ∧ d = pairH m i j t) := by
  unfold pig
  rw [List.mem_flatMap]
  constructor
  · rintro ⟨i, hi, hd⟩
    refine ⟨i, List.mem_range.1 hi, ?_⟩
    rcases List.mem_cons.1 hd with h | h
    · exact .inl h
    · exact .inr (mem_rowsH.1 h)
  · rintro ⟨i, hi, h⟩
    refine ⟨i, List.mem_range.2 hi, ?_⟩
    rcases h with h | h
    · exact List.mem_cons.2 (.inl h)
    · exact List.mem_cons.2 (.inr (mem_rowsH.2 h))
theorem pig_ok : ∀ d ∈ pig m n, ∀ x ∈ d, okL (n * m) x := by
  intro d hd x hx
  obtain ⟨i, hi, h | ⟨j, hj, t, ht, h⟩⟩ := mem_pig.1 hd
  · subst h
    unfold someH at hx
    obtain ⟨t, ht, rfl⟩ := List.mem_map.1 hx
    exact (hole_ok hi (List.mem_range.1 ht)).1
  · subst h
    unfold pairH at hx
    rcases List.mem_cons.1 hx with rfl | hx
    · exact (hole_ok hi ht).2
    · obtain rfl := List.mem_singleton.1 hx
      exact (hole_ok (by omega) ht).2
theorem lit_hole (s : Nat → Bool) (m i t : Nat) : lit s (hole m i t) = s (i * m + t + 1) := by
  unfold lit hole
  rw [decide_eq_true (show (0 : Int) < ((i * m + t + 1 : Nat) : Int) by omega), Int.natAbs_natCast]
  cases s (i * m + t + 1) <;> rfl
theorem hole_ne (m i t : Nat) : hole m i t ≠ 0 := by unfold hole; omega
theorem pig_need {s : Nat → Bool} (h : satF s (pig m n) = true) : n ≤ m := by
  rw [satF_iff] at h
  have h1 : ∀ i, i < n → ∃ t, t < m ∧ s (i * m + t + 1) = true := fun i hi => by
    obtain ⟨x, hx, hl⟩ := satC_iff.1 (h _ (mem_pig.2 ⟨i, hi, .inl rfl⟩))
    unfold someH at hx
    obtain ⟨t, ht, rfl⟩ := List.mem_map.1 hx
    rw [lit_hole] at hl
    exact ⟨t, List.mem_range.1 ht, hl⟩
  have h2 : ∀ i j t, j < i → i < n → t < m → s (i * m + t + 1) = true → s (j * m + t + 1) = true → False := fun i j t hj hi ht a b => by
    obtain ⟨x, hx, hl⟩ := satC_iff.1 (h _ (mem_pig.2 ⟨i, hi, .inr ⟨j, hj, t, ht, rfl⟩⟩))
    unfold pairH at hx
    rcases List.mem_cons.1 hx with rfl | hx
    · rw [lit_neg s (hole_ne _ _ _), lit_hole, a] at hl; cases hl
    · obtain rfl := List.mem_singleton.1 hx
      rw [lit_neg s (hole_ne _ _ _), lit_hole, b] at hl; cases hl
  have h3 : ∃ g : Nat → Nat, ∀ i, i < n → g i < m ∧ s (i * m + g i + 1) = true := ⟨fun i => if hi : i < n then Classical.choose (h1 i hi) else 0, fun i hi => by
    have := Classical.choose_spec (h1 i hi)
    simp only [hi, dif_pos]
    exact this⟩
  obtain ⟨g, hg⟩ := h3
  have hne : ∀ i j, j < i → i < n → g i ≠ g j := fun i j hj hi e => by
    have a := hg i hi
    have b := hg j (by omega)
    rw [← e] at b
    exact h2 i j (g i) hj hi a.1 a.2 b.2
  have := nd_le m ((List.range n).map fun i => g i + 1) (by
    refine List.pairwise_map.2 (List.Pairwise.imp_of_mem (fun {a b} ha hb h => ?_) (List.pairwise_lt_range (n := n)))
    have := hne b a h (List.mem_range.1 hb)
    omega) (fun k hk => by
      obtain ⟨i, hi, rfl⟩ := List.mem_map.1 hk
      have := hg i (List.mem_range.1 hi)
      omega)
  rwa [List.length_map, List.length_range] at this
theorem pig_have (hm : 0 < m) (h : n ≤ m) : ∃ s, satF s (pig m n) = true := by
  refine ⟨fun v => decide ((v - 1) / m = (v - 1) % m), ?_⟩
  have hs : ∀ i t, t < m → decide ((i * m + t + 1 - 1) / m = (i * m + t + 1 - 1) % m) = decide (i = t) := fun i t ht => by
    have e1 : (i * m + t + 1 - 1) / m = i := by
      rw [Nat.add_sub_cancel, Nat.mul_comm, Nat.mul_add_div hm, Nat.div_eq_of_lt ht, Nat.add_zero]
    have e2 : (i * m + t + 1 - 1) % m = t := by
      rw [Nat.add_sub_cancel, Nat.mul_comm, Nat.mul_add_mod, Nat.mod_eq_of_lt ht]
    rw [e1, e2]
  rw [satF_iff]
  intro d hd
  rw [satC_iff]
  obtain ⟨i, hi, h' | ⟨j, hj, t, ht, h'⟩⟩ := mem_pig.1 hd
  · subst h'
    refine ⟨hole m i i, by unfold someH; exact List.mem_map.2 ⟨i, List.mem_range.2 (by omega), rfl⟩, ?_⟩
    rw [lit_hole]
    show decide _ = true
    rw [hs i i (by omega)]; simp
  · subst h'
    by_cases e : i = t
    · refine ⟨-(hole m j t), by unfold pairH; simp, ?_⟩
      rw [lit_neg _ (hole_ne _ _ _), lit_hole]
      show (!decide _) = true
      rw [hs j t ht, decide_eq_false (by omega)]; rfl
    · refine ⟨-(hole m i t), by unfold pairH; simp, ?_⟩
      rw [lit_neg _ (hole_ne _ _ _), lit_hole]
      show (!decide _) = true
      rw [hs i t ht, decide_eq_false e]; rfl
end
end Go.Proofs.Ytnhpfdnhnocgjaa.D
