/- Joined by a program of this session out of: DpA, DpB, DpC, DpD, DpE. -/
/- The solver's state and its watches: plain. -/
namespace Go.Proofs.Ytnhpfdnhnocgjaa.D
set_option linter.unusedVariables false
set_option linter.unusedSimpArgs false
/-! ### literals under an assignment -/
def lit (s : Nat → Bool) (x : Int) : Bool := s x.natAbs == decide (0 < x)
def satC (s : Nat → Bool) (c : List Int) : Bool := c.any (lit s)
def satF (s : Nat → Bool) (f : List (List Int)) : Bool := f.all (satC s)
def Ext (s : Nat → Bool) (t : List Int) : Prop := ∀ x ∈ t, lit s x = true
def okL (n : Nat) (x : Int) : Prop := x ≠ 0 ∧ x.natAbs ≤ n
theorem okL.neg {n : Nat} {x : Int} (h : okL n x) : okL n (-x) := ⟨by have := h.1; omega, by have := h.2; omega⟩
theorem lit_neg (s : Nat → Bool) {x : Int} (h : x ≠ 0) : lit s (-x) = !lit s x := by
  unfold lit
  rw [Int.natAbs_neg]
  by_cases h1 : 0 < x
  · rw [decide_eq_false (show ¬ 0 < -x by omega), decide_eq_true h1]
    cases s x.natAbs <;> rfl
  · rw [decide_eq_true (show 0 < -x by omega), decide_eq_false h1]
    cases s x.natAbs <;> rfl
theorem Ext.append {s : Nat → Bool} {t u : List Int} : Ext s (t ++ u) ↔ Ext s t ∧ Ext s u := by
  unfold Ext
  constructor
  · exact fun h => ⟨fun x hx => h x (List.mem_append_left _ hx), fun x hx => h x (List.mem_append_right _ hx)⟩
  · rintro ⟨h1, h2⟩ x hx
    rcases List.mem_append.1 hx with h | h
    · exact h1 x h
    · exact h2 x h
theorem satC_iff {s : Nat → Bool} {c : List Int} : satC s c = true ↔ ∃ x ∈ c, lit s x = true := by
  unfold satC
  rw [List.any_eq_true]
theorem satF_iff {s : Nat → Bool} {f : List (List Int)} : satF s f = true ↔ ∀ c ∈ f, satC s c = true := by
  unfold satF
  rw [List.all_eq_true]
theorem satC_perm {s : Nat → Bool} {c d : List Int} (h : c.Perm d) : satC s c = satC s d := by
  rw [Bool.eq_iff_iff, satC_iff, satC_iff]
  exact ⟨fun ⟨x, hx, hl⟩ => ⟨x, h.mem_iff.1 hx, hl⟩, fun ⟨x, hx, hl⟩ => ⟨x, h.mem_iff.2 hx, hl⟩⟩
theorem satF_append {s : Nat → Bool} {f g : List (List Int)} : satF s (f ++ g) = (satF s f && satF s g) := by
  unfold satF
  rw [List.all_append]
/-! ### the state -/
structure St where
  n : Nat
  f : List (List Int)
  inn : List (List Nat)
  val : List Bool
  set : List Bool
  trail : List Int
  head : Nat
/-- A literal's place in lists. -/
def pl (v : Int) : Nat := if v < 0 then 2 * v.natAbs + 1 else 2 * v.natAbs
theorem pl_inj {u v : Int} (h : pl u = pl v) : u = v := by
  unfold pl at h
  split at h <;> split at h <;> omega
theorem pl_lt {n : Nat} {v : Int} (h : okL n v) : pl v < 2 * n + 2 := by
  have := h.2
  unfold pl
  split <;> omega
def St.known (st : St) (v : Int) : Bool := st.set.getD v.natAbs false
def St.on (st : St) (v : Int) : Bool := if v < 0 then !(st.val.getD v.natAbs false) else st.val.getD v.natAbs false
def St.assign (st : St) (v : Int) : St := { st with val := st.val.set v.natAbs (decide (0 < v)), set := st.set.set v.natAbs true, trail := st.trail ++ [v] }
def St.row (st : St) (u : Int) : List Nat := st.inn.getD (pl u) []
/-- The trail and what is set are one. -/
structure Tr (st : St) : Prop where
  lv : st.val.length = st.n + 1
  ls : st.set.length = st.n + 1
  ok : ∀ x ∈ st.trail, okL st.n x
  nd : (st.trail.map Int.natAbs).Nodup
  hs : ∀ k, st.set.getD k false = true ↔ k ∈ st.trail.map Int.natAbs
  hv : ∀ x ∈ st.trail, st.val.getD x.natAbs false = decide (0 < x)
/-- A clause that is kept. -/
structure Cl (n : Nat) (c : List Int) : Prop where
  two : 2 ≤ c.length
  ok : ∀ x ∈ c, okL n x
  nd : (c.map Int.natAbs).Nodup
/-- The watches are where they belong. -/
structure Wa (st : St) : Prop where
  cl : ∀ c ∈ st.f, Cl st.n c
  hi : st.inn.length = 2 * st.n + 2
  nd : ∀ u, okL st.n u → (st.row u).Nodup
  mem : ∀ u, okL st.n u → ∀ i : Nat, i ∈ st.row u ↔ ∃ c, st.f[i]? = some c ∧ (c[0]? = some u ∨ c[1]? = some u)
theorem nd_inj {t : List Int} (h : (t.map Int.natAbs).Nodup) {x y : Int} (hx : x ∈ t) (hy : y ∈ t) (e : x.natAbs = y.natAbs) : x = y := by
  induction t with
  | nil => cases hx
  | cons a t ih =>
    rw [List.map_cons, List.nodup_cons] at h
    rcases List.mem_cons.1 hx with rfl | hx
    · rcases List.mem_cons.1 hy with rfl | hy
      · rfl
      · exact absurd (List.mem_map.2 ⟨y, hy, e.symm⟩) h.1
    · rcases List.mem_cons.1 hy with hy | hy
      · exact absurd (List.mem_map.2 ⟨x, hx, by rw [e, hy]⟩) h.1
      · exact ih h.2 hx hy
theorem nd_neg {t : List Int} (h : (t.map Int.natAbs).Nodup) {x : Int} (h0 : x ≠ 0) (hx : x ∈ t) : -x ∉ t := by
  intro hy
  have := nd_inj h hx hy (by omega)
  omega
theorem known_iff {st : St} (h : Tr st) (v : Int) : st.known v = true ↔ v ∈ st.trail ∨ -v ∈ st.trail := by
  unfold St.known
  rw [h.hs, List.mem_map]
  constructor
  · rintro ⟨x, hx, e⟩
    rcases Int.natAbs_eq_natAbs_iff.1 e with rfl | rfl
    · exact .inl hx
    · exact .inr (by simpa using hx)
  · rintro (hx | hx)
    · exact ⟨v, hx, rfl⟩
    · exact ⟨-v, hx, by omega⟩
theorem on_iff {st : St} (h : Tr st) {v : Int} (h0 : v ≠ 0) (hk : st.known v = true) : st.on v = true ↔ v ∈ st.trail := by
  have hp : ∀ x ∈ st.trail, x = v → st.on v = true := by
    rintro x hx rfl
    unfold St.on
    rw [h.hv x hx]
    by_cases hn : x < 0
    · rw [if_pos hn, decide_eq_false (show ¬ 0 < x by omega)]; rfl
    · rw [if_neg hn, decide_eq_true (show 0 < x by omega)]
  have hm : ∀ x ∈ st.trail, x = -v → st.on v = false := by
    rintro x hx e
    unfold St.on
    have := h.hv x hx
    rw [show x.natAbs = v.natAbs by omega] at this
    rw [this]
    by_cases hn : v < 0
    · rw [if_pos hn, decide_eq_true (show 0 < x by omega)]; rfl
    · rw [if_neg hn, decide_eq_false (show ¬ 0 < x by omega)]
  rcases (known_iff h v).1 hk with hx | hx
  · exact ⟨fun _ => hx, fun _ => hp v hx rfl⟩
  · refine ⟨fun ho => ?_, fun hv => hp v hv rfl⟩
    rw [hm _ hx rfl] at ho
    cases ho
theorem off_iff {st : St} (h : Tr st) {v : Int} (h0 : v ≠ 0) (hk : st.known v = true) : st.on v = false ↔ -v ∈ st.trail := by
  constructor
  · intro ho
    rcases (known_iff h v).1 hk with hx | hx
    · rw [(on_iff h h0 hk).2 hx] at ho; cases ho
    · exact hx
  · intro hx
    cases ho : st.on v with
    | false => rfl
    | true => exact absurd ((on_iff h h0 hk).1 ho) (fun hv => nd_neg h.nd h0 hv hx)
theorem getD_set_self {α : Type} {l : List α} {i : Nat} {x d : α} (h : i < l.length) : (l.set i x).getD i d = x := by
  rw [List.getD_eq_getElem?_getD, List.getElem?_set_self h]; rfl
theorem getD_set_ne {α : Type} {l : List α} {i j : Nat} {x d : α} (h : i ≠ j) : (l.set i x).getD j d = l.getD j d := by
  rw [List.getD_eq_getElem?_getD, List.getD_eq_getElem?_getD, List.getElem?_set_ne h]
/-- Assigning an open literal. -/
theorem Tr.assign {st : St} (h : Tr st) {v : Int} (hv : okL st.n v) (ho : st.known v = false) : Tr (st.assign v) := by
  have hn : ¬ (v ∈ st.trail ∨ -v ∈ st.trail) := fun hc => by rw [(known_iff h v).2 hc] at ho; cases ho
  have hna : v.natAbs ∉ st.trail.map Int.natAbs := by
    intro hm
    obtain ⟨x, hx, e⟩ := List.mem_map.1 hm
    rcases Int.natAbs_eq_natAbs_iff.1 e with rfl | rfl
    · exact hn (.inl hx)
    · exact hn (.inr (by simpa using hx))
  refine ⟨?_, ?_, ?_, ?_, ?_, ?_⟩
  · show (st.val.set _ _).length = _
    rw [List.length_set]; exact h.lv
  · show (st.set.set _ _).length = _
    rw [List.length_set]; exact h.ls
  · intro x hx
    rcases List.mem_append.1 hx with hx | hx
    · exact h.ok x hx
    · rw [List.mem_singleton.1 hx]; exact hv
  · show ((st.trail ++ [v]).map Int.natAbs).Nodup
    rw [List.map_append, List.nodup_append]
    refine ⟨h.nd, by simp, ?_⟩
    rintro a ha b hb rfl
    have : a = v.natAbs := by simpa using hb
    exact hna (this ▸ ha)
  · intro k
    show (st.set.set v.natAbs true).getD k false = true ↔ k ∈ (st.trail ++ [v]).map Int.natAbs
    rw [List.map_append, List.mem_append]
    by_cases e : v.natAbs = k
    · subst e
      rw [getD_set_self (by rw [h.ls]; have := hv.2; omega)]
      simp
    · rw [getD_set_ne e, h.hs]
      simp
      intro hk
      exact absurd hk.symm e
  · intro x hx
    show (st.val.set v.natAbs (decide (0 < v))).getD x.natAbs false = decide (0 < x)
    rcases List.mem_append.1 hx with hx | hx
    · have hne : v.natAbs ≠ x.natAbs := fun e => hna (e ▸ List.mem_map.2 ⟨x, hx, rfl⟩)
      rw [getD_set_ne hne]
      exact h.hv x hx
    · rw [List.mem_singleton.1 hx, getD_set_self (by rw [h.lv]; have := hv.2; omega)]
/-! ### clauses moved about -/
def PermF (f g : List (List Int)) : Prop := f.length = g.length ∧ ∀ (i : Nat) (c : List Int), f[i]? = some c → ∃ d : List Int, g[i]? = some d ∧ c.Perm d
theorem PermF.refl (f : List (List Int)) : PermF f f := ⟨rfl, fun i c h => ⟨c, h, .refl c⟩⟩
theorem PermF.trans {f g h : List (List Int)} (a : PermF f g) (b : PermF g h) : PermF f h := ⟨a.1.trans b.1, fun i c hc => by
  obtain ⟨d, hd, p⟩ := a.2 i c hc
  obtain ⟨e, he, q⟩ := b.2 i d hd
  exact ⟨e, he, p.trans q⟩⟩
theorem PermF.back {f g : List (List Int)} (h : PermF f g) {i : Nat} {d : List Int} (hd : g[i]? = some d) : ∃ c, f[i]? = some c ∧ c.Perm d := by
  have hl : i < g.length := (List.getElem?_eq_some_iff.1 hd).1
  have hf : f[i]? = some (f[i]'(by rw [h.1]; exact hl)) := List.getElem?_eq_getElem _
  obtain ⟨e, he, p⟩ := h.2 i _ hf
  rw [hd] at he
  injection he with he
  subst he
  exact ⟨_, hf, p⟩
theorem PermF.set {f : List (List Int)} {i : Nat} {c d : List Int} (hc : f[i]? = some c) (p : c.Perm d) : PermF f (f.set i d) := by
  refine ⟨by simp, fun j e he => ?_⟩
  have hl : i < f.length := (List.getElem?_eq_some_iff.1 hc).1
  by_cases h : i = j
  · subst h
    rw [hc] at he
    injection he with he
    subst he
    exact ⟨d, by rw [List.getElem?_set_self hl], p⟩
  · exact ⟨e, by rw [List.getElem?_set_ne h]; exact he, .refl e⟩
theorem PermF.sat {f g : List (List Int)} (h : PermF f g) (s : Nat → Bool) : satF s f = satF s g := by
  rw [Bool.eq_iff_iff, satF_iff, satF_iff]
  constructor
  · intro hf d hd
    obtain ⟨i, hi⟩ := List.mem_iff_getElem?.1 hd
    obtain ⟨c, hc, p⟩ := h.back hi
    rw [← satC_perm p]
    exact hf c (List.mem_iff_getElem?.2 ⟨i, hc⟩)
  · intro hf c hc
    obtain ⟨i, hi⟩ := List.mem_iff_getElem?.1 hc
    obtain ⟨d, hd, p⟩ := h.2 i c hi
    rw [satC_perm p]
    exact hf d (List.mem_iff_getElem?.2 ⟨i, hd⟩)
theorem Cl.perm {n : Nat} {c d : List Int} (h : Cl n c) (p : c.Perm d) : Cl n d :=
  ⟨by rw [← p.length_eq]; exact h.two, fun x hx => h.ok x (p.mem_iff.2 hx), (p.map _).nodup_iff.1 h.nd⟩
/-! ### the invariant of watches -/
def WC (t1 t2 : List Int) (c : List Int) : Prop := ∀ a b, c[0]? = some a → c[1]? = some b → (-a ∈ t1 → b ∈ t2) ∧ (-b ∈ t1 → a ∈ t2)
def WI (f : List (List Int)) (t1 t2 : List Int) : Prop := ∀ c ∈ f, WC t1 t2 c
theorem WC.mono {t1 t2 t1' t2' c : List Int} (h : WC t1 t2 c) (h1 : ∀ x ∈ t1', x ∈ t1) (h2 : ∀ x ∈ t2, x ∈ t2') : WC t1' t2' c :=
  fun a b ha hb => ⟨fun hx => h2 _ ((h a b ha hb).1 (h1 _ hx)), fun hx => h2 _ ((h a b ha hb).2 (h1 _ hx))⟩
theorem WI.set {f : List (List Int)} {t1 t2 : List Int} (h : WI f t1 t2) {i : Nat} {d : List Int} (hd : WC t1 t2 d) : WI (f.set i d) t1 t2 := by
  intro c hc
  rcases List.mem_or_eq_of_mem_set hc with h' | rfl
  · exact h c h'
  · exact hd
end Go.Proofs.Ytnhpfdnhnocgjaa.D
/- What a failed literal does to the clauses that watch it: plain. -/
namespace Go.Proofs.Ytnhpfdnhnocgjaa.D
set_option linter.unusedVariables false
set_option linter.unusedSimpArgs false
/-- Two places of a row changed about. -/
def sw (c : List Int) (i j : Nat) : List Int := (c.set i (c.getD j 0)).set j (c.getD i 0)
theorem sw_length (c : List Int) (i j : Nat) : (sw c i j).length = c.length := by unfold sw; simp
theorem getD_lt {c : List Int} {i : Nat} (h : i < c.length) : c.getD i 0 = c[i] := by
  rw [List.getD_eq_getElem?_getD, List.getElem?_eq_getElem h]; rfl
theorem getD_of {c : List Int} {i : Nat} {x : Int} (h : c[i]? = some x) : c.getD i 0 = x := by
  rw [List.getD_eq_getElem?_getD, h]; rfl
theorem lt_of {α : Type} {c : List α} {i : Nat} {x : α} (h : c[i]? = some x) : i < c.length := (List.getElem?_eq_some_iff.1 h).1
theorem sw_perm {c : List Int} {i j : Nat} (hi : i < c.length) (hj : j < c.length) : c.Perm (sw c i j) := by
  unfold sw
  rw [getD_lt hi, getD_lt hj]
  exact (List.set_set_perm hi hj).symm
theorem sw_left {c : List Int} {i j : Nat} {y : Int} (hij : i ≠ j) (hi : i < c.length) (hj : c[j]? = some y) : (sw c i j)[i]? = some y := by
  unfold sw
  rw [List.getElem?_set_ne (Ne.symm hij), List.getElem?_set_self hi, getD_of hj]
theorem sw_right {c : List Int} {i j : Nat} {x : Int} (hi : c[i]? = some x) (hj : j < c.length) : (sw c i j)[j]? = some x := by
  unfold sw
  rw [List.getElem?_set_self (by rw [List.length_set]; exact hj), getD_of hi]
theorem sw_ne {c : List Int} {i j k : Nat} (h1 : k ≠ i) (h2 : k ≠ j) : (sw c i j)[k]? = c[k]? := by
  unfold sw
  rw [List.getElem?_set_ne (Ne.symm h2), List.getElem?_set_ne (Ne.symm h1)]
theorem nd_at {c : List Int} (h : (c.map Int.natAbs).Nodup) {i j : Nat} {x y : Int} (hi : c[i]? = some x) (hj : c[j]? = some y) (hne : i ≠ j) : x.natAbs ≠ y.natAbs := by
  intro e
  have hi' := lt_of hi
  have hj' := lt_of hj
  have hx : c[i] = x := (List.getElem?_eq_some_iff.1 hi).2
  have hy : c[j] = y := (List.getElem?_eq_some_iff.1 hj).2
  have hp := List.pairwise_iff_getElem.1 h
  rcases Nat.lt_or_gt_of_ne hne with hl | hl
  · have := hp i j (by simpa using hi') (by simpa using hj') hl
    rw [List.getElem_map, List.getElem_map, hx, hy] at this
    exact this e
  · have := hp j i (by simpa using hj') (by simpa using hi') hl
    rw [List.getElem_map, List.getElem_map, hx, hy] at this
    exact this e.symm
/-- What holds while the clauses that watch v are gone through: kept are those that were kept, rest those that are left; the row of v is told as both. -/
structure FI (st0 : St) (v : Int) (st : St) (kept rest : List Nat) (well : Bool) : Prop where
  n : st.n = st0.n
  head : st.head = st0.head
  tr : Tr st
  wa : Wa st
  row : st.row v = kept ++ rest
  pf : PermF st0.f st.f
  new : ∃ u, st.trail = st0.trail ++ u
  bound : ∀ t : List Int, (∀ x ∈ t, x ∈ st0.trail) → -v ∉ t → WI st0.f t t → WI st.f t t
  yes : well = true → ∀ s, satF s st0.f = true → Ext s st0.trail → Ext s st.trail
  no : well = false → ∀ s, satF s st0.f = true → Ext s st0.trail → False
  main : well = true → ∀ t1 : List Int, (∀ x ∈ t1, x ∈ st0.trail) → -v ∉ t1 → WI st0.f t1 st0.trail → WI st.f t1 st.trail
  done : well = true → ∀ (i : Nat) (c : List Int), st.f[i]? = some c → i ∉ rest → (c[0]? = some v → ∃ b, c[1]? = some b ∧ b ∈ st.trail) ∧ (c[1]? = some v → ∃ a, c[0]? = some a ∧ a ∈ st.trail)
theorem FI.start {st : St} (v : Int) (hv : okL st.n v) (ht : Tr st) (hw : Wa st) : FI st v st [] (st.row v) true where
  n := rfl
  head := rfl
  tr := ht
  wa := hw
  row := rfl
  pf := PermF.refl _
  new := ⟨[], by simp⟩
  bound := fun _ _ _ h => h
  yes := fun _ _ _ h => h
  no := fun h => by cases h
  main := fun _ _ _ _ h => h
  done := fun _ i c hc hi => ⟨fun h => absurd ((hw.mem v hv i).2 ⟨c, hc, .inl h⟩) hi, fun h => absurd ((hw.mem v hv i).2 ⟨c, hc, .inr h⟩) hi⟩
section
variable {st0 st : St} {v : Int} {kept rest : List Nat} {i : Nat} {well : Bool} {c : List Int}
theorem FI.mem (h : FI st0 v st kept (i :: rest) well) (hv : okL st0.n v) : ∃ c, st.f[i]? = some c ∧ Cl st.n c ∧ (c[0]? = some v ∨ c[1]? = some v) := by
  have hm : i ∈ st.row v := by rw [h.row]; exact List.mem_append_right _ List.mem_cons_self
  obtain ⟨c, hc, hw⟩ := (h.wa.mem v (by rw [h.n]; exact hv) i).1 hm
  exact ⟨c, hc, h.wa.cl c (List.mem_of_getElem? hc), hw⟩
theorem wc_swap {t1 t2 c : List Int} (h2 : 2 ≤ c.length) (h : WC t1 t2 c) : WC t1 t2 (sw c 0 1) := by
  intro a b ha hb
  have h0 : c[0]? = some (c[0]'(by omega)) := List.getElem?_eq_getElem _
  have h1 : c[1]? = some (c[1]'(by omega)) := List.getElem?_eq_getElem _
  rw [sw_left (by omega) (by omega) h1] at ha
  rw [sw_right h0 (by omega)] at hb
  injection ha with ha
  injection hb with hb
  have := h _ _ h0 h1
  rw [ha, hb] at this
  exact ⟨this.2, this.1⟩
/-- The failed literal is put in the second place. -/
theorem FI.swap (h : FI st0 v st kept (i :: rest) well) (hc : st.f[i]? = some c) (h0 : c[0]? = some v) : FI st0 v { st with f := st.f.set i (sw c 0 1) } kept (i :: rest) well := by
  have hcl : Cl st.n c := h.wa.cl c (List.mem_of_getElem? hc)
  have h2 := hcl.two
  have hi := lt_of hc
  obtain ⟨b, h1⟩ : ∃ b, c[1]? = some b := ⟨_, List.getElem?_eq_getElem (by omega)⟩
  have hp := sw_perm (c := c) (i := 0) (j := 1) (by omega) (by omega)
  have e0 : (sw c 0 1)[0]? = some b := sw_left (by omega) (by omega) h1
  have e1 : (sw c 0 1)[1]? = some v := sw_right h0 (by omega)
  have hws : ∀ {t1 t2 : List Int}, WI st.f t1 t2 → WI (st.f.set i (sw c 0 1)) t1 t2 := fun hw => hw.set (wc_swap h2 (hw c (List.mem_of_getElem? hc)))
  refine ⟨h.n, h.head, ⟨h.tr.lv, h.tr.ls, h.tr.ok, h.tr.nd, h.tr.hs, h.tr.hv⟩, ⟨?_, h.wa.hi, h.wa.nd, ?_⟩, h.row, h.pf.trans (PermF.set hc hp), h.new, fun t a b' w => hws (h.bound t a b' w), h.yes, h.no, fun hw t a b' w => hws (h.main hw t a b' w), fun hw k d hd hk => ?_⟩
  · intro d hd
    rcases List.mem_or_eq_of_mem_set hd with h' | rfl
    · exact h.wa.cl d h'
    · exact hcl.perm hp
  · intro u hu k
    refine (h.wa.mem u hu k).trans ?_
    show (∃ d, st.f[k]? = some d ∧ _) ↔ ∃ d, (st.f.set i (sw c 0 1))[k]? = some d ∧ _
    by_cases e : i = k
    · subst e
      rw [List.getElem?_set_self hi, hc]
      constructor
      · rintro ⟨d, hd, hw⟩
        injection hd with hd
        subst hd
        refine ⟨_, rfl, ?_⟩
        rw [e0, e1]
        rw [h0, h1] at hw
        exact hw.symm
      · rintro ⟨d, hd, hw⟩
        injection hd with hd
        subst hd
        refine ⟨_, rfl, ?_⟩
        rw [e0, e1] at hw
        rw [h0, h1]
        exact hw.symm
    · rw [List.getElem?_set_ne e]
  · have hne : i ≠ k := fun e => hk (e ▸ List.mem_cons_self)
    have hd' : st.f[k]? = some d := by rw [← hd]; exact (List.getElem?_set_ne hne).symm
    exact h.done hw k d hd' hk
/-- Another literal is watched. -/
theorem FI.move (h : FI st0 v st kept (i :: rest) well) (hv : okL st0.n v) (hvt : -v ∈ st0.trail) (hc : st.f[i]? = some c) (h1 : c[1]? = some v) {j : Nat} (hj : 2 ≤ j) {x : Int} (hx : c[j]? = some x) (hno : -x ∉ st.trail) :
    FI st0 v { st with f := st.f.set i (sw c 1 j), inn := (st.inn.set (pl v) (kept ++ rest)).set (pl x) (st.row x ++ [i]) } kept rest well := by
  have hcl : Cl st.n c := h.wa.cl c (List.mem_of_getElem? hc)
  have h2 := hcl.two
  have hi := lt_of hc
  have hjl := lt_of hx
  obtain ⟨a, h0⟩ : ∃ a, c[0]? = some a := ⟨_, List.getElem?_eq_getElem (by omega)⟩
  have hp := sw_perm (c := c) (i := 1) (j := j) (by omega) (by omega)
  have e1 : (sw c 1 j)[1]? = some x := sw_left (by omega) (by omega) hx
  have e0 : (sw c 1 j)[0]? = some a := by rw [sw_ne (by omega) (by omega)]; exact h0
  have hxv : x ≠ v := fun e => nd_at hcl.nd hx h1 (by omega) (by rw [e])
  have hxa : x ≠ a := fun e => nd_at hcl.nd hx h0 (by omega) (by rw [e])
  have hva : v ≠ a := fun e => nd_at hcl.nd h1 h0 (by omega) (by rw [e])
  have hxo : okL st.n x := hcl.ok x (List.mem_of_getElem? hx)
  have hvo : okL st.n v := by rw [h.n]; exact hv
  have hsub : ∀ y ∈ st0.trail, y ∈ st.trail := fun y hy => by
    obtain ⟨u, hu⟩ := h.new
    rw [hu]; exact List.mem_append_left _ hy
  have hvn : v ∉ st.trail := by
    have := nd_neg h.tr.nd (x := -v) (by have := hv.1; omega) (hsub _ hvt)
    rwa [Int.neg_neg] at this
  have hws : ∀ {t1 t2 : List Int}, (∀ y ∈ t1, y ∈ st0.trail) → (∀ y ∈ t2, y ∈ st.trail) → WI st.f t1 t2 → WI (st.f.set i (sw c 1 j)) t1 t2 := by
    intro t1 t2 hs1 hs2 hw
    refine hw.set (fun a' x' ha' hx' => ?_)
    rw [e0] at ha'
    rw [e1] at hx'
    injection ha' with ha'
    injection hx' with hx'
    subst ha' hx'
    refine ⟨fun hm => ?_, fun hm => absurd (hsub _ (hs1 _ hm)) hno⟩
    exact absurd (hs2 _ ((hw c (List.mem_of_getElem? hc) a v h0 h1).1 hm)) hvn
  have hnd := h.wa.nd v hvo
  rw [h.row] at hnd
  have hni : i ∉ kept ++ rest := by
    have := List.nodup_append.1 hnd
    intro hm
    rcases List.mem_append.1 hm with hm | hm
    · exact this.2.2 i hm i List.mem_cons_self rfl
    · exact (List.nodup_cons.1 this.2.1).1 hm
  have hnd' : (kept ++ rest).Nodup := by
    have := List.nodup_append.1 hnd
    exact List.nodup_append.2 ⟨this.1, (List.nodup_cons.1 this.2.1).2, fun a ha b hb => this.2.2 a ha b (List.mem_cons_of_mem _ hb)⟩
  have hlv : pl v < st.inn.length := by rw [h.wa.hi]; exact pl_lt hvo
  have hlx : pl x < st.inn.length := by rw [h.wa.hi]; exact pl_lt hxo
  -- the rows
  have rv : ({ st with f := st.f.set i (sw c 1 j), inn := (st.inn.set (pl v) (kept ++ rest)).set (pl x) (st.row x ++ [i]) } : St).row v = kept ++ rest := by
    show ((st.inn.set (pl v) (kept ++ rest)).set (pl x) (st.row x ++ [i])).getD (pl v) [] = _
    rw [getD_set_ne (fun e => hxv (pl_inj e)), getD_set_self hlv]
  have rx : ({ st with f := st.f.set i (sw c 1 j), inn := (st.inn.set (pl v) (kept ++ rest)).set (pl x) (st.row x ++ [i]) } : St).row x = st.row x ++ [i] := by
    show ((st.inn.set (pl v) (kept ++ rest)).set (pl x) (st.row x ++ [i])).getD (pl x) [] = _
    rw [getD_set_self (by rw [List.length_set]; exact hlx)]
  have ru : ∀ u, u ≠ v → u ≠ x → ({ st with f := st.f.set i (sw c 1 j), inn := (st.inn.set (pl v) (kept ++ rest)).set (pl x) (st.row x ++ [i]) } : St).row u = st.row u := by
    intro u hu1 hu2
    show ((st.inn.set (pl v) (kept ++ rest)).set (pl x) (st.row x ++ [i])).getD (pl u) [] = st.inn.getD (pl u) []
    rw [getD_set_ne (fun e => hu2 (pl_inj e).symm), getD_set_ne (fun e => hu1 (pl_inj e).symm)]
  have hix : i ∉ st.row x := by
    intro hm
    obtain ⟨d, hd, hw⟩ := (h.wa.mem x hxo i).1 hm
    rw [hc] at hd
    injection hd with hd
    subst hd
    rw [h0, h1] at hw
    rcases hw with e | e
    · injection e with e; exact hxa e.symm
    · injection e with e; exact hxv e.symm
  refine ⟨h.n, h.head, ⟨h.tr.lv, h.tr.ls, h.tr.ok, h.tr.nd, h.tr.hs, h.tr.hv⟩, ⟨?_, ?_, ?_, ?_⟩, rv, h.pf.trans (PermF.set hc hp), h.new, ?_, h.yes, h.no, ?_, ?_⟩
  · intro d hd
    rcases List.mem_or_eq_of_mem_set hd with h' | rfl
    · exact h.wa.cl d h'
    · exact hcl.perm hp
  · show ((st.inn.set _ _).set _ _).length = _
    rw [List.length_set, List.length_set]; exact h.wa.hi
  · intro u hu
    by_cases hu1 : u = v
    · rw [hu1, rv]; exact hnd'
    · by_cases hu2 : u = x
      · rw [hu2, rx]
        refine List.nodup_append.2 ⟨h.wa.nd x hxo, by simp, ?_⟩
        rintro a' ha' b' hb' rfl
        rw [List.mem_singleton.1 hb'] at ha'
        exact hix ha'
      · rw [ru u hu1 hu2]; exact h.wa.nd u hu
  · intro u hu k
    have old := h.wa.mem u hu k
    show _ ↔ ∃ d, (st.f.set i (sw c 1 j))[k]? = some d ∧ _
    by_cases e : i = k
    · subst e
      rw [List.getElem?_set_self hi]
      have hr : (∃ d, some (sw c 1 j) = some d ∧ (d[0]? = some u ∨ d[1]? = some u)) ↔ (a = u ∨ x = u) := by
        constructor
        · rintro ⟨d, hd, hw⟩
          injection hd with hd
          subst hd
          rw [e0, e1] at hw
          rcases hw with e | e
          · injection e with e; exact .inl e
          · injection e with e; exact .inr e
        · rintro (e | e)
          · exact ⟨_, rfl, .inl (by rw [e0, e])⟩
          · exact ⟨_, rfl, .inr (by rw [e1, e])⟩
      rw [hr]
      by_cases hu1 : u = v
      · rw [hu1, rv]
        exact ⟨fun hm => absurd hm hni, fun hm => by rcases hm with e | e; exact absurd e.symm hva; exact absurd e hxv⟩
      · by_cases hu2 : u = x
        · rw [hu2, rx]
          exact ⟨fun _ => .inr rfl, fun _ => by simp⟩
        · rw [ru u hu1 hu2, old, hc]
          constructor
          · rintro ⟨d, hd, hw⟩
            injection hd with hd
            subst hd
            rw [h0, h1] at hw
            rcases hw with e | e
            · injection e with e; exact .inl e
            · injection e with e; exact absurd e.symm hu1
          · rintro (e | e)
            · exact ⟨_, rfl, .inl (by rw [h0, e])⟩
            · exact absurd e.symm hu2
    · rw [List.getElem?_set_ne e, ← old]
      by_cases hu1 : u = v
      · rw [hu1, rv, h.row]
        simp only [List.mem_append, List.mem_cons]
        constructor
        · rintro (hm | hm)
          · exact .inl hm
          · exact .inr (.inr hm)
        · rintro (hm | hm | hm)
          · exact .inl hm
          · exact absurd hm.symm e
          · exact .inr hm
      · by_cases hu2 : u = x
        · rw [hu2, rx]
          simp only [List.mem_append, List.mem_singleton]
          exact ⟨fun hm => by rcases hm with hm | hm; exact hm; exact absurd hm.symm e, .inl⟩
        · rw [ru u hu1 hu2]
  · intro t ht hvt' hw
    exact hws ht (fun y hy => hsub _ (ht y hy)) (h.bound t ht hvt' hw)
  · intro hw t1 ht1 hvt1 hwi
    exact hws ht1 (fun _ h => h) (h.main hw t1 ht1 hvt1 hwi)
  · intro hw k d hd hk
    by_cases e : i = k
    · subst e
      have hd' : some (sw c 1 j) = some d := by rw [← hd]; exact (List.getElem?_set_self hi).symm
      injection hd' with hd'
      subst hd'
      refine ⟨fun h' => ?_, fun h' => ?_⟩
      · rw [e0] at h'; injection h' with h'; exact absurd h'.symm hva
      · rw [e1] at h'; injection h' with h'; exact absurd h' hxv
    · have hd' : st.f[k]? = some d := by rw [← hd]; exact (List.getElem?_set_ne e).symm
      exact h.done hw k d hd' (fun hm => by rcases List.mem_cons.1 hm with h' | h'; exact e h'.symm; exact hk h')
/-- A clause is kept: one that holds, or none is looked at any more. -/
theorem FI.keep (h : FI st0 v st kept (i :: rest) well) (hc : st.f[i]? = some c) (h1 : c[1]? = some v) (hk : well = true → ∃ a, c[0]? = some a ∧ a ∈ st.trail) : FI st0 v st (kept ++ [i]) rest well := by
  have hcl : Cl st.n c := h.wa.cl c (List.mem_of_getElem? hc)
  refine ⟨h.n, h.head, h.tr, h.wa, by rw [h.row]; simp, h.pf, h.new, h.bound, h.yes, h.no, h.main, fun hw k d hd hkr => ?_⟩
  by_cases e : i = k
  · subst e
    rw [hc] at hd
    injection hd with hd
    subst hd
    exact ⟨fun h0 => absurd rfl (nd_at hcl.nd h0 h1 (by omega)), fun _ => hk hw⟩
  · exact h.done hw k d hd (fun hm => by rcases List.mem_cons.1 hm with h' | h'; exact e h'.symm; exact hkr h')
theorem FI.off (h : FI st0 v st kept (i :: rest) true) (hvt : -v ∈ st0.trail) (hc : st.f[i]? = some c) (h1 : c[1]? = some v) (hall : ∀ (j : Nat) (x : Int), 2 ≤ j → c[j]? = some x → -x ∈ st.trail) {a : Int} (h0 : c[0]? = some a) :
    ∀ s, satF s st0.f = true → Ext s st0.trail → lit s a = true := by
  have hcl : Cl st.n c := h.wa.cl c (List.mem_of_getElem? hc)
  intro s hs he
  have hex := h.yes rfl s hs he
  rw [h.pf.sat] at hs
  have hsc := satF_iff.1 hs c (List.mem_of_getElem? hc)
  obtain ⟨x, hx, hl⟩ := satC_iff.1 hsc
  obtain ⟨j, hj⟩ := List.mem_iff_getElem?.1 hx
  have hsub : ∀ y ∈ st0.trail, y ∈ st.trail := fun y hy => by
    obtain ⟨u, hu⟩ := h.new
    rw [hu]; exact List.mem_append_left _ hy
  have hbad : -x ∉ st.trail := fun hm => by
    have := hex _ hm
    rw [lit_neg s (hcl.ok x hx).1, hl] at this
    cases this
  match j, hj with
  | 0, hj => rw [h0] at hj; injection hj with hj; rw [hj]; exact hl
  | 1, hj =>
    rw [h1] at hj
    injection hj with hj
    subst hj
    exact absurd (hsub _ hvt) hbad
  | j + 2, hj => exact absurd (hall (j + 2) x (by omega) hj) hbad
/-- A clause's last literal is made to hold. -/
theorem FI.unit (h : FI st0 v st kept (i :: rest) true) (hvt : -v ∈ st0.trail) (hc : st.f[i]? = some c) (h1 : c[1]? = some v) (hall : ∀ (j : Nat) (x : Int), 2 ≤ j → c[j]? = some x → -x ∈ st.trail) {a : Int} (h0 : c[0]? = some a) (ha : st.known a = false) :
    FI st0 v (st.assign a) (kept ++ [i]) rest true := by
  have hcl : Cl st.n c := h.wa.cl c (List.mem_of_getElem? hc)
  have hao := hcl.ok a (List.mem_of_getElem? h0)
  have hoff := h.off hvt hc h1 hall h0
  have hsub : ∀ y ∈ st.trail, y ∈ (st.assign a).trail := fun y hy => List.mem_append_left _ hy
  have hat : a ∈ (st.assign a).trail := List.mem_append_right _ (by simp)
  refine ⟨h.n, h.head, h.tr.assign hao ha, ⟨h.wa.cl, h.wa.hi, h.wa.nd, h.wa.mem⟩, by show st.row v = _; rw [h.row]; simp, h.pf, ?_, h.bound, ?_, (fun hw => by cases hw), ?_, ?_⟩
  · obtain ⟨u, hu⟩ := h.new
    exact ⟨u ++ [a], by show st.trail ++ [a] = _; rw [hu]; simp⟩
  · intro _ s hs he
    show Ext s (st.trail ++ [a])
    refine Ext.append.2 ⟨h.yes rfl s hs he, fun x hx => ?_⟩
    rw [List.mem_singleton.1 hx]
    exact hoff s hs he
  · intro _ t1 ht1 hvt1 hwi c' hc'
    exact (h.main rfl t1 ht1 hvt1 hwi c' hc').mono (fun _ h => h) hsub
  · intro hw k d hd hkr
    by_cases e : i = k
    · subst e
      have hd : st.f[i]? = some d := hd
      rw [hc] at hd
      injection hd with hd
      subst hd
      exact ⟨fun h0 => absurd rfl (nd_at hcl.nd h0 h1 (by omega)), fun _ => ⟨a, h0, hat⟩⟩
    · have := h.done rfl k d hd (fun hm => by rcases List.mem_cons.1 hm with h' | h'; exact e h'.symm; exact hkr h')
      exact ⟨fun h' => by obtain ⟨b, hb, hm⟩ := this.1 h'; exact ⟨b, hb, hsub _ hm⟩, fun h' => by obtain ⟨b, hb, hm⟩ := this.2 h'; exact ⟨b, hb, hsub _ hm⟩⟩
/-- Nothing is left of a clause. -/
theorem FI.conflict (h : FI st0 v st kept (i :: rest) true) (hvt : -v ∈ st0.trail) (hc : st.f[i]? = some c) (h1 : c[1]? = some v) (hall : ∀ (j : Nat) (x : Int), 2 ≤ j → c[j]? = some x → -x ∈ st.trail) {a : Int} (h0 : c[0]? = some a) (ha : -a ∈ st.trail) :
    FI st0 v st (kept ++ [i]) rest false := by
  have hcl : Cl st.n c := h.wa.cl c (List.mem_of_getElem? hc)
  have hao := hcl.ok a (List.mem_of_getElem? h0)
  have hoff := h.off hvt hc h1 hall h0
  refine ⟨h.n, h.head, h.tr, h.wa, by rw [h.row]; simp, h.pf, h.new, h.bound, (fun hw => by cases hw), ?_, (fun hw => by cases hw), (fun hw => by cases hw)⟩
  intro _ s hs he
  have h1 := hoff s hs he
  have h2 := h.yes rfl s hs he _ ha
  rw [lit_neg s hao.1, h1] at h2
  cases h2
end
/-- What is left when all were gone through. -/
structure FE (st0 : St) (v : Int) (st : St) (well : Bool) : Prop where
  n : st.n = st0.n
  head : st.head = st0.head
  tr : Tr st
  wa : Wa st
  pf : PermF st0.f st.f
  new : ∃ u, st.trail = st0.trail ++ u
  bound : ∀ t : List Int, (∀ x ∈ t, x ∈ st0.trail) → -v ∉ t → WI st0.f t t → WI st.f t t
  yes : well = true → ∀ s, satF s st0.f = true → Ext s st0.trail → Ext s st.trail
  no : well = false → ∀ s, satF s st0.f = true → Ext s st0.trail → False
  main : well = true → ∀ t1 : List Int, (∀ x ∈ t1, x ∈ st0.trail) → -v ∉ t1 → WI st0.f t1 st0.trail → WI st.f (t1 ++ [-v]) st.trail
theorem FI.fin {st0 st : St} {v : Int} {kept : List Nat} {well : Bool} (h : FI st0 v st kept [] well) : FE st0 v st well := by
  refine ⟨h.n, h.head, h.tr, h.wa, h.pf, h.new, h.bound, h.yes, h.no, fun hw t1 ht1 hv1 hwi c hc a b ha hb => ?_⟩
  have hm := h.main hw t1 ht1 hv1 hwi c hc a b ha hb
  obtain ⟨i, hi⟩ := List.mem_iff_getElem?.1 hc
  have hd := h.done hw i c hi (by simp)
  refine ⟨fun hx => ?_, fun hx => ?_⟩
  · rcases List.mem_append.1 hx with hx | hx
    · exact hm.1 hx
    · have e : a = v := by have := List.mem_singleton.1 hx; omega
      subst e
      obtain ⟨b', hb', hmem⟩ := hd.1 ha
      rw [hb] at hb'
      injection hb' with hb'
      rw [hb']; exact hmem
  · rcases List.mem_append.1 hx with hx | hx
    · exact hm.2 hx
    · have e : b = v := by have := List.mem_singleton.1 hx; omega
      subst e
      obtain ⟨a', ha', hmem⟩ := hd.2 hb
      rw [ha] at ha'
      injection ha' with ha'
      rw [ha']; exact hmem
theorem nd_le : ∀ (n : Nat) (l : List Nat), l.Nodup → (∀ x ∈ l, 1 ≤ x ∧ x ≤ n) → l.length ≤ n
  | 0, l, _, hb => by
    cases l with
    | nil => exact Nat.le_refl _
    | cons a l => have := hb a List.mem_cons_self; omega
  | n + 1, l, hn, hb => by
    have h1 := nd_le n (l.erase (n + 1)) (hn.erase _) (fun x hx => by
      have hx' := (hn.mem_erase_iff).1 hx
      have := hb x hx'.2
      have := hx'.1
      omega)
    by_cases hm : n + 1 ∈ l
    · rw [List.length_erase_of_mem hm] at h1
      omega
    · rw [List.erase_of_not_mem hm] at h1
      omega
theorem Tr.len {st : St} (h : Tr st) : st.trail.length ≤ st.n := by
  have := nd_le st.n (st.trail.map Int.natAbs) h.nd (fun k hk => by
    obtain ⟨x, hx, rfl⟩ := List.mem_map.1 hk
    have := h.ok x hx
    exact ⟨by have := this.1; omega, this.2⟩)
  rwa [List.length_map] at this
theorem Cl.len {n : Nat} {c : List Int} (h : Cl n c) : c.length ≤ n := by
  have := nd_le n (c.map Int.natAbs) h.nd (fun k hk => by
    obtain ⟨x, hx, rfl⟩ := List.mem_map.1 hk
    have := h.ok x hx
    exact ⟨by have := this.1; omega, this.2⟩)
  rwa [List.length_map] at this
theorem Wa.rowlen {st : St} (h : Wa st) {u : Int} (hu : okL st.n u) : (st.row u).length ≤ st.f.length := by
  have hb : ∀ i ∈ st.row u, i < st.f.length := fun i hi => by
    obtain ⟨c, hc, _⟩ := (h.mem u hu i).1 hi
    exact lt_of hc
  have hnd : ((st.row u).map (· + 1)).Nodup := List.Pairwise.map _ (fun a b hab e => hab (by omega)) (h.nd u hu)
  have := nd_le st.f.length ((st.row u).map (· + 1)) hnd (fun k hk => by
    obtain ⟨x, hx, rfl⟩ := List.mem_map.1 hk
    have := hb x hx
    exact ⟨by omega, by omega⟩)
  rwa [List.length_map] at this
end Go.Proofs.Ytnhpfdnhnocgjaa.D
/- Propagation, taking back, what is free: plain. -/
namespace Go.Proofs.Ytnhpfdnhnocgjaa.D
set_option linter.unusedVariables false
set_option linter.unusedSimpArgs false
/-- The watches at a length of the trail. -/
def WAt (st : St) (b : Nat) : Prop := WI st.f (st.trail.take b) (st.trail.take b)
structure PI (st0 st : St) : Prop where
  n : st.n = st0.n
  tr : Tr st
  wa : Wa st
  pf : PermF st0.f st.f
  new : ∃ u, st.trail = st0.trail ++ u
  h0 : st0.head ≤ st.head
  h1 : st.head ≤ st.trail.length
  h2 : st0.head ≤ st0.trail.length
  yes : ∀ s, satF s st0.f = true → Ext s st0.trail → Ext s st.trail
  bound : ∀ b, b ≤ st0.head → WAt st0 b → WAt st b
  main : WI st0.f (st0.trail.take st0.head) st0.trail → WI st.f (st.trail.take st.head) st.trail
theorem PI.start {st : St} (ht : Tr st) (hw : Wa st) (h : st.head ≤ st.trail.length) : PI st st :=
  ⟨rfl, ht, hw, PermF.refl _, ⟨[], by simp⟩, Nat.le_refl _, h, h, fun _ _ h => h, fun _ _ h => h, fun h => h⟩
/-- What is left behind a propagation. -/
structure PE (st0 st : St) (r : Bool) : Prop where
  n : st.n = st0.n
  tr : Tr st
  wa : Wa st
  pf : PermF st0.f st.f
  new : ∃ u, st.trail = st0.trail ++ u
  bound : ∀ b, b ≤ st0.head → WAt st0 b → WAt st b
  head : r = true → st.head = st.trail.length
  yes : r = true → ∀ s, satF s st0.f = true → Ext s st0.trail → Ext s st.trail
  no : r = false → ∀ s, satF s st0.f = true → Ext s st0.trail → False
  main : r = true → WI st0.f (st0.trail.take st0.head) st0.trail → WAt st st.trail.length
theorem PI.fin {st0 st : St} (h : PI st0 st) (he : st.head = st.trail.length) : PE st0 st true :=
  ⟨h.n, h.tr, h.wa, h.pf, h.new, h.bound, fun _ => he, fun _ => h.yes, (fun e => by cases e), fun _ hw => by
    have := h.main hw
    rw [he] at this
    unfold WAt
    rw [List.take_length] at this ⊢
    exact this⟩
theorem take_prefix {α : Type} {l u : List α} {b : Nat} (h : b ≤ l.length) : (l ++ u).take b = l.take b := List.take_append_of_le_length h
theorem not_in_take {st : St} (h : Tr st) {k b : Nat} (hk : k < st.trail.length) (hb : b ≤ k) : st.trail[k] ∉ st.trail.take b := by
  intro hm
  obtain ⟨j, hj⟩ := List.mem_iff_getElem?.1 hm
  have hjb : j < b := by have := lt_of hj; rw [List.length_take] at this; omega
  rw [List.getElem?_take_of_lt hjb] at hj
  exact nd_at h.nd hj (List.getElem?_eq_getElem hk) (by omega) rfl
theorem PI.lit {st0 st : St} (h : PI st0 st) (hk : st.head < st.trail.length) {x : Int} (hx : st.trail[st.head]? = some x) : okL st.n (-x) ∧ -(-x) ∈ st.trail := by
  have hm := List.mem_of_getElem? hx
  exact ⟨(h.tr.ok x hm).neg, by rw [Int.neg_neg]; exact hm⟩
theorem PI.bounds {st0 st st' : St} (h : PI st0 st) {x : Int} (hx : st.trail[st.head]? = some x) {r : Bool} (hf : FE st (-x) st' r) : ∀ b, b ≤ st0.head → WAt st0 b → WAt st' b := by
  intro b hb hw
  have hk := lt_of hx
  have e : st.trail[st.head] = x := (List.getElem?_eq_some_iff.1 hx).2
  have h1 := h.bound b hb hw
  obtain ⟨u, hu⟩ := hf.new
  have hlen : b ≤ st.trail.length := by have := h.h0; omega
  unfold WAt at h1 ⊢
  rw [hu, take_prefix hlen]
  refine hf.bound _ (fun y hy => List.mem_of_mem_take hy) ?_ h1
  rw [Int.neg_neg, ← e]
  exact not_in_take h.tr hk (by have := h.h0; omega)
theorem PI.step {st0 st st' : St} (h : PI st0 st) {x : Int} (hx : st.trail[st.head]? = some x) (hf : FE st (-x) st' true) : PI st0 { st' with head := st.head + 1 } := by
  have hk := lt_of hx
  have e : st.trail[st.head] = x := (List.getElem?_eq_some_iff.1 hx).2
  obtain ⟨u, hu⟩ := hf.new
  have hlen : st'.trail.length = st.trail.length + u.length := by rw [hu, List.length_append]
  refine ⟨hf.n.trans h.n, ⟨hf.tr.lv, hf.tr.ls, hf.tr.ok, hf.tr.nd, hf.tr.hs, hf.tr.hv⟩, ⟨hf.wa.cl, hf.wa.hi, hf.wa.nd, hf.wa.mem⟩, h.pf.trans hf.pf, ?_, by have := h.h0; show _ ≤ st.head + 1; omega, by show st.head + 1 ≤ st'.trail.length; omega, h.h2, ?_, fun b hb hw => h.bounds hx hf b hb hw, ?_⟩
  · obtain ⟨u0, hu0⟩ := h.new
    exact ⟨u0 ++ u, by show st'.trail = _; rw [hu, hu0, List.append_assoc]⟩
  · intro s hs he
    exact hf.yes rfl s (by rw [← h.pf.sat]; exact hs) (h.yes s hs he)
  · intro hw
    have h1 := hf.main rfl (st.trail.take st.head) (fun y hy => List.mem_of_mem_take hy) (by rw [Int.neg_neg, ← e]; exact not_in_take h.tr hk (Nat.le_refl _)) (h.main hw)
    rw [Int.neg_neg] at h1
    show WI st'.f (st'.trail.take (st.head + 1)) st'.trail
    rw [hu, take_prefix (by omega), List.take_succ_eq_append_getElem hk, e, ← hu]
    exact h1
theorem PI.fail {st0 st st' : St} (h : PI st0 st) {x : Int} (hx : st.trail[st.head]? = some x) (hf : FE st (-x) st' false) : PE st0 st' false := by
  obtain ⟨u, hu⟩ := hf.new
  obtain ⟨u0, hu0⟩ := h.new
  exact ⟨hf.n.trans h.n, hf.tr, hf.wa, h.pf.trans hf.pf, ⟨u0 ++ u, by rw [hu, hu0, List.append_assoc]⟩, h.bounds hx hf, (fun e => by cases e), (fun e => by cases e), fun _ s hs he => hf.no rfl s (by rw [← h.pf.sat]; exact hs) (h.yes s hs he), (fun e => by cases e)⟩
/-! ### taking back -/
def clr (l : List Bool) : List Int → List Bool
  | [] => l
  | x :: t => clr (l.set x.natAbs false) t
theorem clr_length : ∀ (t : List Int) (l : List Bool), (clr l t).length = l.length
  | [], l => rfl
  | x :: t, l => by rw [clr, clr_length t, List.length_set]
theorem clr_at : ∀ (t : List Int) (l : List Bool) (k : Nat), (clr l t).getD k false = (l.getD k false && !(decide (k ∈ t.map Int.natAbs)))
  | [], l, k => by simp [clr]
  | x :: t, l, k => by
    rw [clr, clr_at t]
    by_cases e : x.natAbs = k
    · subst e
      by_cases hl : x.natAbs < l.length
      · rw [getD_set_self hl]; simp
      · rw [List.set_eq_of_length_le (by omega)]
        have : l.getD x.natAbs false = false := by rw [List.getD_eq_getElem?_getD, List.getElem?_eq_none (by omega)]; rfl
        rw [this]; simp
    · rw [getD_set_ne e]
      have : (decide (k ∈ (x :: t).map Int.natAbs)) = decide (k ∈ t.map Int.natAbs) := by
        rw [List.map_cons]
        simp [Ne.symm e]
      rw [this]
def St.back (st : St) (k : Nat) : St := { st with set := clr st.set (st.trail.drop k), trail := st.trail.take k, head := k }
theorem Tr.back {st : St} (h : Tr st) (k : Nat) : Tr (st.back k) := by
  have hnd := h.nd
  rw [← List.take_append_drop k st.trail, List.map_append, List.nodup_append] at hnd
  refine ⟨h.lv, by show (clr st.set _).length = _; rw [clr_length]; exact h.ls, fun x hx => h.ok x (List.mem_of_mem_take hx), hnd.1, ?_, fun x hx => h.hv x (List.mem_of_mem_take hx)⟩
  intro j
  show (clr st.set (st.trail.drop k)).getD j false = true ↔ j ∈ (st.trail.take k).map Int.natAbs
  rw [clr_at, Bool.and_eq_true, h.hs]
  rw [← List.take_append_drop k st.trail, List.map_append, List.mem_append]
  simp only [Bool.not_eq_true', decide_eq_false_iff_not, List.take_append_drop]
  constructor
  · rintro ⟨h1 | h1, h2⟩
    · exact h1
    · exact absurd h1 h2
  · intro h1
    exact ⟨.inl h1, fun h2 => hnd.2.2 j h1 j h2 rfl⟩
theorem Wa.back {st : St} (h : Wa st) (k : Nat) : Wa (st.back k) := ⟨h.cl, h.hi, h.nd, h.mem⟩
theorem WAt.back {st : St} {k b : Nat} (h : WAt st b) (hb : b ≤ k) : WAt (st.back k) b := by
  unfold WAt at *
  show WI st.f ((st.trail.take k).take b) ((st.trail.take k).take b)
  rw [List.take_take, Nat.min_eq_left hb]
  exact h
/-! ### what is free -/
def holdsC (st : St) (c : List Int) : Bool := c.any fun x => st.known x && st.on x
def firstOpen (st : St) (c : List Int) : Nat := match c.find? (fun x => !st.known x) with
  | some x => x.natAbs
  | none => 0
theorem holdsC_iff {st : St} (h : Tr st) {c : List Int} (hc : ∀ x ∈ c, okL st.n x) : holdsC st c = true ↔ ∃ x ∈ c, x ∈ st.trail := by
  unfold holdsC
  rw [List.any_eq_true]
  constructor
  · rintro ⟨x, hx, hk⟩
    rw [Bool.and_eq_true] at hk
    exact ⟨x, hx, (on_iff h (hc x hx).1 hk.1).1 hk.2⟩
  · rintro ⟨x, hx, ht⟩
    have hk := (known_iff h x).2 (.inl ht)
    exact ⟨x, hx, by rw [Bool.and_eq_true]; exact ⟨hk, (on_iff h (hc x hx).1 hk).2 ht⟩⟩
/-- Where the watches are right, a clause that does not hold has an open literal. -/
theorem firstOpen_pos {st : St} (h : Tr st) (hw : Wa st) (hW : WAt st st.trail.length) {c : List Int} (hc : c ∈ st.f) (hh : holdsC st c = false) : 0 < firstOpen st c ∧ firstOpen st c ≤ st.n ∧ st.known (firstOpen st c : Int) = false := by
  have hcl := hw.cl c hc
  have hno : ¬ ∃ x ∈ c, x ∈ st.trail := fun he => by rw [(holdsC_iff h hcl.ok).2 he] at hh; cases hh
  unfold firstOpen
  cases hf : c.find? (fun x => !st.known x) with
  | some x =>
    have hm := List.mem_of_find?_eq_some hf
    have hk := List.find?_some hf
    have ho := hcl.ok x hm
    refine ⟨by have := ho.1; show 0 < x.natAbs; omega, ho.2, ?_⟩
    have : st.known ((x.natAbs : Nat) : Int) = st.known x := by unfold St.known; rw [Int.natAbs_natCast]
    rw [this]
    simpa using hk
  | none =>
    exfalso
    have hall : ∀ x ∈ c, -x ∈ st.trail := by
      intro x hx
      have hk := List.find?_eq_none.1 hf x hx
      rcases (known_iff h x).1 (by simpa using hk) with h1 | h1
      · exact absurd ⟨x, hx, h1⟩ hno
      · exact h1
    have h2 := hcl.two
    have h0 : c[0]? = some (c[0]'(by omega)) := List.getElem?_eq_getElem _
    have h1 : c[1]? = some (c[1]'(by omega)) := List.getElem?_eq_getElem _
    have hW' := hW
    unfold WAt at hW'
    rw [List.take_length] at hW'
    have := (hW' c hc _ _ h0 h1).1 (hall _ (List.getElem_mem _))
    exact hno ⟨_, List.getElem_mem _, this⟩
theorem holdsC_snoc (st : St) (t : List Int) (x : Int) : holdsC st (t ++ [x]) = (holdsC st t || (st.known x && st.on x)) := by
  unfold holdsC
  rw [List.any_append]
  simp
theorem firstOpen_snoc (st : St) (t : List Int) (x : Int) (h0 : ∀ y ∈ t, y ≠ 0) : firstOpen st (t ++ [x]) = if st.known x = true then firstOpen st t else if firstOpen st t = 0 then x.natAbs else firstOpen st t := by
  unfold firstOpen
  rw [List.find?_append]
  cases hf : t.find? (fun y => !st.known y) with
  | some y =>
    have hy := h0 y (List.mem_of_find?_eq_some hf)
    simp only [Option.some_or]
    by_cases hk : st.known x = true
    · rw [if_pos hk]
    · rw [if_neg hk, if_neg (by omega)]
  | none =>
    simp only [Option.none_or]
    by_cases hk : st.known x = true
    · rw [if_pos hk]; simp [hk]
    · rw [if_neg hk]; simp [hk]
end Go.Proofs.Ytnhpfdnhnocgjaa.D
/- The search, decision by decision: plain. -/
namespace Go.Proofs.Ytnhpfdnhnocgjaa.D
set_option linter.unusedVariables false
set_option linter.unusedSimpArgs false
/-- A decision. -/
structure Ch where
  lit : Int
  trail : Nat
  frm : Nat
  second : Bool
/-- Clauses up to a number hold by what stood at a length of the trail. -/
def HoldAt (st : St) (m k : Nat) : Prop := ∀ (t : Nat) (c : List Int), t < m → st.f[t]? = some c → ∃ x ∈ c, x ∈ st.trail.take k
/-- What is the same all along. -/
structure RB (F : List (List Int)) (T0 : Nat) (st : St) : Prop where
  tr : Tr st
  wa : Wa st
  n : st.n ≤ 65536
  m : st.f.length ≤ 5864062014804
  t0 : T0 ≤ st.trail.length
  sem : ∀ s, satF s F = true ↔ (satF s st.f = true ∧ Ext s (st.trail.take T0))
/-- The decisions, the last one first; b: the length of the trail that they lead to. -/
def Lv (F : List (List Int)) (T0 : Nat) (st : St) : List Ch → Nat → Prop
  | [], b => b = T0
  | c :: l, b => Lv F T0 st l c.trail ∧ st.trail[c.trail]? = some c.lit ∧ c.trail < b ∧ (∀ s, satF s F = true → Ext s (st.trail.take (c.trail + 1)) → Ext s (st.trail.take b)) ∧
      (c.second = true → ∀ s, satF s F = true → Ext s (st.trail.take c.trail) → lit s c.lit = true) ∧ WAt st c.trail ∧ HoldAt st c.frm c.trail ∧ c.frm ≤ st.f.length
/-- The last decision leads nowhere. -/
def Conf (F : List (List Int)) (T0 : Nat) (st : St) : List Ch → Prop
  | [] => ∀ s, satF s F = true → False
  | c :: l => Lv F T0 st (c :: l) (c.trail + 1) ∧ c.trail < st.trail.length ∧ ∀ s, satF s F = true → Ext s (st.trail.take (c.trail + 1)) → False
structure RS (F : List (List Int)) (T0 : Nat) (st : St) (l : List Ch) (ok : Bool) (frm : Nat) : Prop where
  rb : RB F T0 st
  yes : ok = true → st.head = st.trail.length ∧ WAt st st.trail.length ∧ Lv F T0 st l st.trail.length ∧ HoldAt st frm st.trail.length ∧ frm ≤ st.f.length
  no : ok = false → Conf F T0 st l
section
variable {F : List (List Int)} {T0 : Nat} {st st' : St} {l : List Ch} {b : Nat}
theorem Lv.len : ∀ {l : List Ch} {b : Nat}, Lv F T0 st l b → l.length ≤ b
  | [], b, _ => Nat.zero_le _
  | c :: l, b, h => by
    have h1 := Lv.len h.1
    have h2 := h.2.2.1
    rw [List.length_cons]; omega
theorem Lv.base : ∀ {l : List Ch} {b : Nat}, Lv F T0 st l b → T0 ≤ b
  | [], b, h => by have : b = T0 := h; omega
  | c :: l, b, h => by
    have h1 := Lv.base h.1
    have h2 := h.2.2.1
    omega
theorem take_eq {t u : List Int} {b k : Nat} (h : t.take b = u.take b) (hk : k ≤ b) : t.take k = u.take k := by
  have := congrArg (List.take k) h
  rwa [List.take_take, List.take_take, Nat.min_eq_left hk] at this
theorem get_of_take {t u : List Int} {b k : Nat} (h : t.take b = u.take b) (hk : k < b) : t[k]? = u[k]? := by
  have := congrArg (fun l => l[k]?) h
  simpa [List.getElem?_take_of_lt hk] using this
theorem HoldAt.move {m k : Nat} (h : HoldAt st m k) (hp : PermF st.f st'.f) (ht : st'.trail.take k = st.trail.take k) : HoldAt st' m k := by
  intro t c htm hc
  obtain ⟨d, hd, hperm⟩ := hp.back hc
  obtain ⟨x, hx, hxt⟩ := h t d htm hd
  exact ⟨x, hperm.mem_iff.1 hx, by rw [ht]; exact hxt⟩
/-- The decisions stand where the trail below stands and the watches do. -/
theorem Lv.move (hp : PermF st.f st'.f) (hw : ∀ k, k < b → WAt st k → WAt st' k) : ∀ {l : List Ch} {b' : Nat}, b' ≤ b → st'.trail.take b' = st.trail.take b' → Lv F T0 st l b' → Lv F T0 st' l b'
  | [], b', _, _, h => h
  | c :: l, b', hb, ht, h => by
    obtain ⟨h1, h2, h3, h4, h5, h6, h7, h8⟩ := h
    have e1 := take_eq ht (show c.trail ≤ b' by omega)
    have e2 := take_eq ht (show c.trail + 1 ≤ b' by omega)
    refine ⟨Lv.move hp hw (by omega) e1 h1, (get_of_take ht h3).trans h2, h3, ?_, ?_, hw _ (by omega) h6, h7.move hp e1, by rw [← hp.1]; exact h8⟩
    · intro s hs he
      rw [e2] at he
      rw [ht]
      exact h4 s hs he
    · intro hsec s hs he
      rw [e1] at he
      exact h5 hsec s hs he
/-- All that was assigned follows. -/
theorem Lv.ext (hr : RB F T0 st) : ∀ {l : List Ch} {b : Nat}, Lv F T0 st l b → match l with
    | [] => ∀ s, satF s F = true → Ext s (st.trail.take b)
    | c :: _ => ∀ s, satF s F = true → Ext s (st.trail.take (c.trail + 1)) → Ext s (st.trail.take b)
  | [], b, h => fun s hs => by
    have : b = T0 := h
    rw [this]
    exact ((hr.sem s).1 hs).2
  | c :: l, b, h => h.2.2.2.1
theorem ext_succ {s : Nat → Bool} {t : List Int} {k : Nat} {x : Int} (h : t[k]? = some x) : Ext s (t.take (k + 1)) ↔ Ext s (t.take k) ∧ lit s x = true := by
  have hk := lt_of h
  have e : t[k] = x := (List.getElem?_eq_some_iff.1 h).2
  rw [List.take_succ_eq_append_getElem hk, Ext.append, e]
  unfold Ext
  simp
theorem Lv.tail {c : Ch} {b : Nat} (h : Lv F T0 st (c :: l) b) : Lv F T0 st (c :: l) (c.trail + 1) := by
  obtain ⟨h1, h2, h3, h4, h5, h6, h7, h8⟩ := h
  exact ⟨h1, h2, Nat.lt_succ_self _, fun _ _ h => h, h5, h6, h7, h8⟩
/-- Both sides were tried. -/
theorem Conf.pop {c : Ch} (hr : RB F T0 st) (h : Conf F T0 st (c :: l)) (hs : c.second = true) : Conf F T0 st l := by
  obtain ⟨hl, hlt, hno⟩ := h
  have h2 := hl.2.1
  have h5 := hl.2.2.2.2.1 hs
  cases l with
  | nil =>
    have hx := Lv.ext hr hl.1
    intro s hsat
    exact hno s hsat ((ext_succ h2).2 ⟨hx s hsat, h5 s hsat (hx s hsat)⟩)
  | cons d l =>
    have hx := Lv.ext hr hl.1
    refine ⟨hl.1.tail, by have := hl.1.2.2.1; omega, fun s hsat he => ?_⟩
    have he2 := hx s hsat he
    exact hno s hsat ((ext_succ h2).2 ⟨he2, h5 s hsat he2⟩)
/-- What must hold of a decision before it is made. -/
structure Ready (F : List (List Int)) (T0 : Nat) (st : St) (l : List Ch) (c : Ch) : Prop where
  rb : RB F T0 st
  lv : Lv F T0 st l st.trail.length
  at_ : c.trail = st.trail.length
  head : st.head = st.trail.length
  ok : okL st.n c.lit
  open_ : st.known c.lit = false
  sec : c.second = true → ∀ s, satF s F = true → Ext s st.trail → lit s c.lit = true
  wat : WAt st st.trail.length
  hold : HoldAt st c.frm st.trail.length
  frm : c.frm ≤ st.f.length
/-- The decision is made, and what follows. -/
theorem Ready.go {c : Ch} (h : Ready F T0 st l c) {r : Bool} (hp : PE (st.assign c.lit) st' r) : RS F T0 st' (c :: l) r c.frm := by
  have hst1 : Tr (st.assign c.lit) := h.rb.tr.assign h.ok h.open_
  obtain ⟨u, hu⟩ := hp.new
  have hu' : st'.trail = (st.trail ++ [c.lit]) ++ u := hu
  have hpf : PermF st.f st'.f := hp.pf
  have hlen : (st.trail ++ [c.lit]).length = st.trail.length + 1 := by simp
  have tk : ∀ k, k ≤ st.trail.length → st'.trail.take k = st.trail.take k := fun k hk => by
    rw [hu', take_prefix (by rw [hlen]; omega), take_prefix hk]
  have tk1 : st'.trail.take (st.trail.length + 1) = st.trail ++ [c.lit] := by
    rw [hu', take_prefix (by rw [hlen]; exact Nat.le_refl _), ← hlen, List.take_length]
  have tkl : st'.trail.take st.trail.length = st.trail := by rw [tk _ (Nat.le_refl _), List.take_length]
  have asg : ∀ k, k ≤ st.trail.length → WAt st k → WAt (st.assign c.lit) k := fun k hk hw => by
    unfold WAt at *
    show WI st.f ((st.trail ++ [c.lit]).take k) ((st.trail ++ [c.lit]).take k)
    rw [take_prefix hk]
    exact hw
  have hwat : ∀ k, k ≤ st.trail.length → WAt st k → WAt st' k := fun k hk hw => hp.bound k (by show k ≤ st.head; rw [h.head]; exact hk) (asg k hk hw)
  have hsat : ∀ s, satF s F = true → satF s st.f = true := fun s hs => ((h.rb.sem s).1 hs).1
  have hget : st'.trail[st.trail.length]? = some c.lit := by
    rw [hu', List.append_assoc, List.getElem?_append_right (Nat.le_refl _), Nat.sub_self]; rfl
  have hlt : st.trail.length < st'.trail.length := lt_of hget
  have hrb : RB F T0 st' := by
    refine ⟨hp.tr, hp.wa, by rw [hp.n]; exact h.rb.n, by rw [← hpf.1]; exact h.rb.m, by have := h.rb.t0; omega, fun s => ?_⟩
    rw [h.rb.sem, hpf.sat, tk T0 h.rb.t0]
  have hlv : Lv F T0 st' l st.trail.length := Lv.move (b := st.trail.length) hpf (fun k hk hw => hwat k (by omega) hw) (Nat.le_refl _) (tk _ (Nat.le_refl _)) h.lv
  have hwat' : WAt st' c.trail := by rw [h.at_]; exact hwat _ (Nat.le_refl _) h.wat
  have hhold : HoldAt st' c.frm c.trail := by rw [h.at_]; exact h.hold.move hpf (tk _ (Nat.le_refl _))
  have hfrm : c.frm ≤ st'.f.length := by rw [← hpf.1]; exact h.frm
  have hsec : c.second = true → ∀ s, satF s F = true → Ext s (st'.trail.take c.trail) → lit s c.lit = true := fun hs s hsf he => by
    rw [h.at_, tkl] at he
    exact h.sec hs s hsf he
  have hmain : WI (st.assign c.lit).f ((st.assign c.lit).trail.take (st.assign c.lit).head) (st.assign c.lit).trail := by
    show WI st.f ((st.trail ++ [c.lit]).take st.head) (st.trail ++ [c.lit])
    rw [h.head, take_prefix (Nat.le_refl _), List.take_length]
    have := h.wat
    unfold WAt at this
    rw [List.take_length] at this
    exact fun d hd => (this d hd).mono (fun _ h => h) (fun x hx => List.mem_append_left _ hx)
  refine ⟨hrb, fun hr => ?_, fun hr => ?_⟩
  · refine ⟨hp.head hr, hp.main hr hmain, ⟨by rw [h.at_]; exact hlv, by rw [h.at_]; exact hget, by rw [h.at_]; exact hlt, ?_, hsec, hwat', hhold, hfrm⟩, ?_, hfrm⟩
    · intro s hs he
      rw [h.at_, tk1] at he
      rw [List.take_length]
      exact hp.yes hr s (hsat s hs) he
    · intro t d ht hd
      obtain ⟨x, hx, hxt⟩ := hhold t d ht hd
      exact ⟨x, hx, by rw [List.take_length]; exact List.mem_of_mem_take hxt⟩
  · refine ⟨⟨by rw [h.at_]; exact hlv, by rw [h.at_]; exact hget, Nat.lt_succ_self _, fun _ _ h => h, hsec, hwat', hhold, hfrm⟩, by rw [h.at_]; exact hlt, fun s hs he => ?_⟩
    rw [h.at_, tk1] at he
    exact hp.no hr s (hsat s hs) he
/-- A new decision: the first open literal of the first clause that doesn't hold, made false. -/
theorem RS.push {frm i : Nat} {c : List Int} (h : RS F T0 st l true frm) (hfi : frm ≤ i) (hc : st.f[i]? = some c) (hh : holdsC st c = false) (hall : ∀ (t : Nat) (d : List Int), frm ≤ t → t < i → st.f[t]? = some d → holdsC st d = true) :
    Ready F T0 st l ⟨-((firstOpen st c : Nat) : Int), st.trail.length, i, false⟩ ∧ 0 < firstOpen st c ∧ firstOpen st c ≤ st.n := by
  obtain ⟨h1, h2, h3, h4, h5⟩ := h.yes rfl
  obtain ⟨p1, p2, p3⟩ := firstOpen_pos h.rb.tr h.rb.wa h2 (List.mem_of_getElem? hc) hh
  refine ⟨⟨h.rb, h3, rfl, h1, ⟨by show -((firstOpen st c : Nat) : Int) ≠ 0; omega, by show (-((firstOpen st c : Nat) : Int)).natAbs ≤ _; omega⟩, ?_, (fun e => by cases e), h2, ?_, Nat.le_of_lt (lt_of hc)⟩, p1, p2⟩
  · show st.known (-((firstOpen st c : Nat) : Int)) = false
    rw [← p3]
    unfold St.known
    rw [Int.natAbs_neg]
  · intro t d ht hd
    rcases Nat.lt_or_ge t frm with hl | hl
    · exact h4 t d hl hd
    · have := hall t d hl ht hd
      rw [List.take_length]
      exact (holdsC_iff h.rb.tr (h.rb.wa.cl d (List.mem_of_getElem? hd)).ok).1 this
/-- The other side of the last decision. -/
theorem Conf.flip {c : Ch} (hr : RB F T0 st) (h : Conf F T0 st (c :: l)) (hs : c.second = false) : Ready F T0 (st.back c.trail) l ⟨-c.lit, c.trail, c.frm, true⟩ ∧ c.trail ≤ st.trail.length := by
  obtain ⟨⟨h1, h2, h3, h4, h5, h6, h7, h8⟩, hlt, hno⟩ := h
  have hmin : (st.trail.take c.trail).length = c.trail := by rw [List.length_take]; omega
  have hb : T0 ≤ c.trail := Lv.base h1
  have htr : Tr (st.back c.trail) := hr.tr.back _
  have hok : okL st.n c.lit := hr.tr.ok _ (List.mem_of_getElem? h2)
  have hunk : (st.back c.trail).known c.lit = false := by
    cases hk : (st.back c.trail).known c.lit with
    | false => rfl
    | true =>
      exfalso
      have e : st.trail[c.trail] = c.lit := (List.getElem?_eq_some_iff.1 h2).2
      rcases (known_iff htr c.lit).1 hk with hm | hm
      · have hm : c.lit ∈ st.trail.take c.trail := hm
        rw [← e] at hm
        exact not_in_take hr.tr hlt (Nat.le_refl _) hm
      · have hm : -c.lit ∈ st.trail.take c.trail := hm
        exact nd_neg hr.tr.nd hok.1 (List.mem_of_getElem? h2) (List.mem_of_mem_take hm)
  refine ⟨⟨⟨htr, hr.wa.back _, hr.n, hr.m, by show T0 ≤ (st.trail.take c.trail).length; omega, fun s => ?_⟩, ?_, hmin.symm, hmin.symm, hok.neg, ?_, fun _ s hsf he => ?_, ?_, ?_, h8⟩, by omega⟩
  · show _ ↔ satF s st.f = true ∧ Ext s ((st.trail.take c.trail).take T0)
    rw [List.take_take, Nat.min_eq_left hb]
    exact hr.sem s
  · show Lv F T0 (st.back c.trail) l (st.trail.take c.trail).length
    rw [hmin]
    refine Lv.move (st := st) (st' := st.back c.trail) (b := c.trail) (PermF.refl _) (fun k hk hw => WAt.back hw (by omega)) (Nat.le_refl _) ?_ h1
    show (st.trail.take c.trail).take c.trail = _
    rw [List.take_take, Nat.min_self]
  · show (st.back c.trail).known (-c.lit) = false
    rw [← hunk]
    unfold St.known
    rw [Int.natAbs_neg]
  · have he : Ext s (st.trail.take c.trail) := he
    show lit s (-c.lit) = true
    rw [lit_neg s hok.1]
    cases hl : lit s c.lit with
    | false => rfl
    | true => exact absurd ((ext_succ h2).2 ⟨he, hl⟩) (hno s hsf)
  · show WAt (st.back c.trail) (st.trail.take c.trail).length
    rw [hmin]
    exact WAt.back h6 (Nat.le_refl _)
  · show HoldAt (st.back c.trail) c.frm (st.trail.take c.trail).length
    rw [hmin]
    refine HoldAt.move (st := st) h7 (PermF.refl _) ?_
    show (st.trail.take c.trail).take c.trail = _
    rw [List.take_take, Nat.min_self]
/-- Nothing is left to decide: whatever goes with the trail is a solution. -/
theorem RS.sat {frm : Nat} (h : RS F T0 st l true frm) (hall : ∀ (t : Nat) (d : List Int), frm ≤ t → t < st.f.length → st.f[t]? = some d → holdsC st d = true) : ∀ s, Ext s st.trail → satF s F = true := by
  intro s he
  obtain ⟨h1, h2, h3, h4, h5⟩ := h.yes rfl
  refine (h.rb.sem s).2 ⟨satF_iff.2 fun c hc => ?_, fun x hx => he x (List.mem_of_mem_take hx)⟩
  obtain ⟨t, ht⟩ := List.mem_iff_getElem?.1 hc
  refine satC_iff.2 ?_
  rcases Nat.lt_or_ge t frm with hl | hl
  · obtain ⟨x, hx, hxt⟩ := h4 t c hl ht
    exact ⟨x, hx, he x (List.mem_of_mem_take hxt)⟩
  · obtain ⟨x, hx, hxt⟩ := (holdsC_iff h.rb.tr (h.rb.wa.cl c hc).ok).1 (hall t c hl (lt_of ht) ht)
    exact ⟨x, hx, he x hxt⟩
end
/-! ### how many decisions, how many rounds -/
def A1 (k : Nat) : Nat := 2 ^ k - 1
theorem A1_succ (k : Nat) : A1 (k + 1) = 2 * A1 k + 1 := by
  unfold A1
  have : 0 < 2 ^ k := Nat.pow_pos (by decide)
  rw [Nat.pow_succ]; omega
def B1 (k : Nat) : Nat := 3 * 2 ^ k - 2
theorem B1_succ (k : Nat) : B1 (k + 1) = 2 * B1 k + 2 := by
  unfold B1
  have : 0 < 2 ^ k := Nat.pow_pos (by decide)
  rw [Nat.pow_succ]; omega
def pendA (n : Nat) : List Ch → Nat
  | [] => 0
  | c :: l => (if c.second then 0 else A1 (n - l.length - 1)) + pendA n l
def pendB (n : Nat) : List Ch → Nat
  | [] => 0
  | c :: l => (if c.second then 0 else B1 (n - l.length - 1) + 1) + pendB n l
def left (n : Nat) (l : List Ch) (ok : Bool) : Nat := pendA n l + if ok then A1 (n - l.length) else 0
def rounds (n : Nat) (l : List Ch) (ok : Bool) : Nat := pendB n l + if ok then B1 (n - l.length) else 0
theorem left_push {n : Nat} {l : List Ch} {c : Ch} (h : l.length < n) (hs : c.second = false) (r : Bool) : left n (c :: l) r + 1 ≤ left n l true := by
  unfold left
  rw [pendA, hs, List.length_cons, if_neg (by decide), if_pos rfl]
  obtain ⟨k, hk⟩ : ∃ k, n - l.length = k + 1 := ⟨n - l.length - 1, by omega⟩
  rw [show n - (l.length + 1) = k by omega, hk, show k + 1 - 1 = k by omega, A1_succ]
  cases r <;> simp <;> omega
theorem rounds_push {n : Nat} {l : List Ch} {c : Ch} (h : l.length < n) (hs : c.second = false) (r : Bool) : rounds n (c :: l) r < rounds n l true := by
  unfold rounds
  rw [pendB, hs, List.length_cons, if_neg (by decide), if_pos rfl]
  obtain ⟨k, hk⟩ : ∃ k, n - l.length = k + 1 := ⟨n - l.length - 1, by omega⟩
  rw [show n - (l.length + 1) = k by omega, hk, show k + 1 - 1 = k by omega, B1_succ]
  cases r <;> simp <;> omega
theorem left_flip {n : Nat} {l : List Ch} {c d : Ch} (h : l.length < n) (hs : c.second = false) (hd : d.second = true) (r : Bool) : left n (d :: l) r ≤ left n (c :: l) false := by
  unfold left
  rw [pendA, pendA, hs, hd, List.length_cons, if_neg (show ¬ (false = true) by decide), if_pos rfl, show n - (l.length + 1) = n - l.length - 1 by omega]
  cases r <;> simp <;> omega
theorem rounds_flip {n : Nat} {l : List Ch} {c d : Ch} (h : l.length < n) (hs : c.second = false) (hd : d.second = true) (r : Bool) : rounds n (d :: l) r < rounds n (c :: l) false := by
  unfold rounds
  rw [pendB, pendB, hs, hd, List.length_cons, if_neg (show ¬ (false = true) by decide), if_pos rfl, show n - (l.length + 1) = n - l.length - 1 by omega]
  cases r <;> simp <;> omega
theorem left_pop {n : Nat} {l : List Ch} {c : Ch} (hs : c.second = true) : left n (c :: l) false = left n l false := by
  unfold left
  rw [pendA, hs, if_pos rfl]; simp
theorem rounds_pop {n : Nat} {l : List Ch} {c : Ch} (hs : c.second = true) : rounds n (c :: l) false = rounds n l false := by
  unfold rounds
  rw [pendB, hs, if_pos rfl]; simp
end Go.Proofs.Ytnhpfdnhnocgjaa.D
/- How many assignments there are: plain. -/
namespace Go.Proofs.Ytnhpfdnhnocgjaa.D
set_option linter.unusedVariables false
set_option linter.unusedSimpArgs false
/-- The assignment of a number: variable v by the bit v - 1. -/
def asg (x : Nat) : Nat → Bool := fun v => x.testBit (v - 1)
def extB (s : Nat → Bool) (t : List Int) : Bool := t.all (lit s)
theorem extB_iff {s : Nat → Bool} {t : List Int} : extB s t = true ↔ Ext s t := by unfold extB Ext; rw [List.all_eq_true]
/-- How many assignments of n variables make the formula hold, and the trail. -/
def cnt (n : Nat) (F : List (List Int)) (t : List Int) : Nat := (List.range (2 ^ n)).countP fun x => satF (asg x) F && extB (asg x) t
def cntE (n : Nat) (t : List Int) : Nat := (List.range (2 ^ n)).countP fun x => extB (asg x) t
theorem countP_congr' {α : Type} {p q : α → Bool} {l : List α} (h : ∀ x ∈ l, p x = q x) : l.countP p = l.countP q := by
  induction l with
  | nil => rfl
  | cons a l ih =>
    rw [List.countP_cons, List.countP_cons, ih (fun x hx => h x (List.mem_cons_of_mem _ hx)), h a List.mem_cons_self]
theorem countP_add {α : Type} {p q r : α → Bool} {l : List α} (h : ∀ x ∈ l, p x = (q x || r x) ∧ (q x && r x) = false) : l.countP p = l.countP q + l.countP r := by
  induction l with
  | nil => rfl
  | cons a l ih =>
    rw [List.countP_cons, List.countP_cons, List.countP_cons, ih (fun x hx => h x (List.mem_cons_of_mem _ hx))]
    obtain ⟨h1, h2⟩ := h a List.mem_cons_self
    rw [h1]
    cases hq : q a <;> cases hr : r a
    · simp
    · simp; omega
    · simp; omega
    · rw [hq, hr] at h2; cases h2
theorem extB_append {s : Nat → Bool} {t u : List Int} : extB s (t ++ u) = (extB s t && extB s u) := by unfold extB; rw [List.all_append]
theorem extB_one {s : Nat → Bool} {x : Int} : extB s [x] = lit s x := by unfold extB; simp
theorem cnt_split (n : Nat) (F : List (List Int)) (t : List Int) {x : Int} (hx : x ≠ 0) : cnt n F t = cnt n F (t ++ [x]) + cnt n F (t ++ [-x]) := by
  unfold cnt
  refine countP_add fun k _ => ?_
  rw [extB_append, extB_append, extB_one, extB_one, lit_neg _ hx]
  cases satF (asg k) F <;> cases extB (asg k) t <;> cases lit (asg k) x <;> simp
theorem cnt_congr {n : Nat} {F G : List (List Int)} {t u : List Int} (h : ∀ s, (satF s F = true ∧ Ext s t) ↔ (satF s G = true ∧ Ext s u)) : cnt n F t = cnt n G u := by
  unfold cnt
  refine countP_congr' fun x _ => ?_
  rw [Bool.eq_iff_iff, Bool.and_eq_true, Bool.and_eq_true, extB_iff, extB_iff]
  exact h _
theorem cnt_none {n : Nat} {F : List (List Int)} {t : List Int} (h : ∀ s, satF s F = true → Ext s t → False) : cnt n F t = 0 := by
  unfold cnt
  rw [List.countP_eq_zero]
  intro x _ hx
  rw [Bool.and_eq_true, extB_iff] at hx
  exact h _ hx.1 hx.2
theorem cnt_all {n : Nat} {F : List (List Int)} {t : List Int} (h : ∀ s, Ext s t → satF s F = true) : cnt n F t = cntE n t := by
  unfold cnt cntE
  refine countP_congr' fun x _ => ?_
  rw [Bool.eq_iff_iff, Bool.and_eq_true, extB_iff]
  exact ⟨fun hx => hx.2, fun hx => ⟨h _ hx, hx⟩⟩
theorem countP_map' {α β : Type} (f : α → β) (p : β → Bool) (l : List α) : (l.map f).countP p = l.countP (fun x => p (f x)) := by
  induction l with
  | nil => rfl
  | cons a l ih => rw [List.map_cons, List.countP_cons, List.countP_cons, ih]
theorem lit_low {n x : Nat} {y : Int} (hy : okL n y) : lit (asg (2 ^ n + x)) y = lit (asg x) y := by
  have h1 := hy.1
  have h2 := hy.2
  unfold lit asg
  rw [Nat.testBit_two_pow_add_gt (by omega)]
/-- The trail's assignments. -/
theorem cntE_eq : ∀ (n : Nat) (t : List Int), (t.map Int.natAbs).Nodup → (∀ x ∈ t, okL n x) → cntE n t = 2 ^ (n - t.length)
  | 0, t, _, ho => by
    cases t with
    | nil => rfl
    | cons x t => have := ho x List.mem_cons_self; exact absurd this.2 (by have := this.1; omega)
  | n + 1, t, hn, ho => by
    have e : 2 ^ (n + 1) = 2 ^ n + 2 ^ n := by rw [Nat.pow_succ]; omega
    have hsplit : cntE (n + 1) t = (List.range (2 ^ n)).countP (fun x => extB (asg x) t) + (List.range (2 ^ n)).countP (fun x => extB (asg (2 ^ n + x)) t) := by
      unfold cntE
      rw [e, List.range_add, List.countP_append, countP_map']
    rw [hsplit]
    have hlow : ∀ x, x < 2 ^ n → asg x (n + 1) = false := fun x hx => by
      unfold asg
      exact Nat.testBit_lt_two_pow hx
    have hhigh : ∀ x, x < 2 ^ n → asg (2 ^ n + x) (n + 1) = true := fun x hx => by
      unfold asg
      rw [show n + 1 - 1 = n by omega, Nat.testBit_two_pow_add_eq, Nat.testBit_lt_two_pow hx]; rfl
    by_cases hm : ∃ y ∈ t, y.natAbs = n + 1
    · obtain ⟨y, hy, hyn⟩ := hm
      -- without it
      have hp : t.Perm (y :: t.erase y) := List.perm_cons_erase hy
      have hnd : ((y :: t.erase y).map Int.natAbs).Nodup := (hp.map _).nodup_iff.1 hn
      rw [List.map_cons, List.nodup_cons] at hnd
      have hlen : t.length = (t.erase y).length + 1 := by rw [hp.length_eq, List.length_cons]
      have hok : ∀ x ∈ t.erase y, okL n x := fun x hx => by
        have h1 := ho x (List.mem_of_mem_erase hx)
        have h2 : x.natAbs ≠ y.natAbs := fun e => hnd.1 (List.mem_map.2 ⟨x, hx, e⟩)
        exact ⟨h1.1, by have := h1.2; omega⟩
      have ih := cntE_eq n (t.erase y) hnd.2 hok
      have hall : ∀ s, extB s t = (lit s y && extB s (t.erase y)) := fun s => by
        rw [Bool.eq_iff_iff, Bool.and_eq_true, extB_iff, extB_iff]
        constructor
        · exact fun h => ⟨h y hy, fun x hx => h x (List.mem_of_mem_erase hx)⟩
        · rintro ⟨h1, h2⟩ x hx
          rcases List.mem_cons.1 (hp.mem_iff.1 hx) with rfl | hx
          · exact h1
          · exact h2 x hx
      have hh : ∀ x, x < 2 ^ n → extB (asg (2 ^ n + x)) (t.erase y) = extB (asg x) (t.erase y) := fun x hx => by
        unfold extB
        rw [Bool.eq_iff_iff, List.all_eq_true, List.all_eq_true]
        exact ⟨fun h z hz => by rw [← lit_low (hok z hz)]; exact h z hz, fun h z hz => by rw [lit_low (hok z hz)]; exact h z hz⟩
      have hE : (List.range (2 ^ n)).countP (fun x => extB (asg x) (t.erase y)) = 2 ^ (n - (t.erase y).length) := ih
      have hle : (t.erase y).length ≤ n := by
        have := nd_le n ((t.erase y).map Int.natAbs) hnd.2 (fun k hk => by
          obtain ⟨x, hx, rfl⟩ := List.mem_map.1 hk
          have := hok x hx
          exact ⟨by have := this.1; omega, this.2⟩)
        rwa [List.length_map] at this
      rw [hlen, show n + 1 - ((t.erase y).length + 1) = n - (t.erase y).length by omega, ← hE]
      by_cases hpos : 0 < y
      · have z1 : (List.range (2 ^ n)).countP (fun x => extB (asg x) t) = 0 := by
          rw [List.countP_eq_zero]
          intro x hx h
          rw [hall, Bool.and_eq_true] at h
          have := h.1
          unfold lit at this
          rw [hyn, hlow x (List.mem_range.1 hx), decide_eq_true hpos] at this
          cases this
        rw [z1, Nat.zero_add]
        refine countP_congr' fun x hx => ?_
        have hx := List.mem_range.1 hx
        have : lit (asg (2 ^ n + x)) y = true := by unfold lit; rw [hyn, hhigh x hx, decide_eq_true hpos]; rfl
        rw [hall, this, Bool.true_and, hh x hx]
      · have z1 : (List.range (2 ^ n)).countP (fun x => extB (asg (2 ^ n + x)) t) = 0 := by
          rw [List.countP_eq_zero]
          intro x hx h
          rw [hall, Bool.and_eq_true] at h
          have := h.1
          unfold lit at this
          rw [hyn, hhigh x (List.mem_range.1 hx), decide_eq_false hpos] at this
          cases this
        rw [z1, Nat.add_zero]
        refine countP_congr' fun x hx => ?_
        have hx := List.mem_range.1 hx
        have : lit (asg x) y = true := by unfold lit; rw [hyn, hlow x hx, decide_eq_false hpos]; rfl
        rw [hall, this, Bool.true_and]
    · have hok : ∀ x ∈ t, okL n x := fun x hx => ⟨(ho x hx).1, by
        have h1 := (ho x hx).2
        have h2 : x.natAbs ≠ n + 1 := fun e => hm ⟨x, hx, e⟩
        omega⟩
      have ih := cntE_eq n t hn hok
      have hle : t.length ≤ n := by
        have := nd_le n (t.map Int.natAbs) hn (fun k hk => by
          obtain ⟨x, hx, rfl⟩ := List.mem_map.1 hk
          have := hok x hx
          exact ⟨by have := this.1; omega, this.2⟩)
        rwa [List.length_map] at this
      have hE : (List.range (2 ^ n)).countP (fun x => extB (asg x) t) = 2 ^ (n - t.length) := ih
      have hh : (List.range (2 ^ n)).countP (fun x => extB (asg (2 ^ n + x)) t) = (List.range (2 ^ n)).countP (fun x => extB (asg x) t) := countP_congr' fun x _ => by
        unfold extB
        rw [Bool.eq_iff_iff, List.all_eq_true, List.all_eq_true]
        exact ⟨fun h z hz => by rw [← lit_low (hok z hz)]; exact h z hz, fun h z hz => by rw [lit_low (hok z hz)]; exact h z hz⟩
      rw [hh, hE, show n + 1 - t.length = (n - t.length) + 1 by omega, Nat.pow_succ]
      omega
/-- A state that counting may start from. -/
structure CS (st : St) (frm : Nat) : Prop where
  tr : Tr st
  wa : Wa st
  n : st.n ≤ 24
  m : st.f.length ≤ 5864062014804
  head : st.head = st.trail.length
  wat : WAt st st.trail.length
  hold : HoldAt st frm st.trail.length
  frm : frm ≤ st.f.length
/-- What counting leaves. -/
structure CE (st st' : St) : Prop where
  n : st'.n = st.n
  tr : Tr st'
  wa : Wa st'
  pf : PermF st.f st'.f
  trail : st'.trail = st.trail
  head : st'.head = st.head
  bound : ∀ b, b ≤ st.trail.length → WAt st b → WAt st' b
theorem CE.refl {st : St} {frm : Nat} (h : CS st frm) : CE st st := ⟨rfl, h.tr, h.wa, PermF.refl _, rfl, rfl, fun _ _ h => h⟩
theorem CE.trans {a b c : St} (h : CE a b) (k : CE b c) : CE a c :=
  ⟨k.n.trans h.n, k.tr, k.wa, h.pf.trans k.pf, k.trail.trans h.trail, k.head.trans h.head, fun x hx hw => k.bound x (by rw [h.trail]; exact hx) (h.bound x hx hw)⟩
theorem CE.cs {st st' : St} {frm : Nat} (h : CE st st') (hs : CS st frm) : CS st' frm :=
  ⟨h.tr, h.wa, by rw [h.n]; exact hs.n, by rw [← h.pf.1]; exact hs.m, by rw [h.head, h.trail]; exact hs.head, by rw [h.trail]; exact h.bound _ (Nat.le_refl _) hs.wat, by rw [h.trail]; exact hs.hold.move h.pf (by rw [h.trail]), by rw [← h.pf.1]; exact hs.frm⟩
theorem CE.cnt {st st' : St} (h : CE st st') (n : Nat) (t : List Int) : cnt n st'.f t = cnt n st.f t := cnt_congr fun s => by rw [h.pf.sat]
theorem CS.next {st : St} {frm i : Nat} (h : CS st frm) (hfi : frm ≤ i) (hi : i ≤ st.f.length) (hall : ∀ (t : Nat) (d : List Int), frm ≤ t → t < i → st.f[t]? = some d → holdsC st d = true) : CS st i :=
  ⟨h.tr, h.wa, h.n, h.m, h.head, h.wat, fun t d ht hd => by
    rcases Nat.lt_or_ge t frm with hl | hl
    · exact h.hold t d hl hd
    · rw [List.take_length]
      exact (holdsC_iff h.tr (h.wa.cl d (List.mem_of_getElem? hd)).ok).1 (hall t d hl ht hd), hi⟩
/-- All hold: all that goes with the trail. -/
theorem CS.all {st : St} {frm : Nat} (h : CS st frm) (hall : ∀ (t : Nat) (d : List Int), frm ≤ t → t < st.f.length → st.f[t]? = some d → holdsC st d = true) : cnt st.n st.f st.trail = 2 ^ (st.n - st.trail.length) := by
  have h2 := h.next h.frm (Nat.le_refl _) hall
  rw [cnt_all (fun s he => ?_), cntE_eq _ _ h.tr.nd h.tr.ok]
  refine satF_iff.2 fun c hc => ?_
  obtain ⟨t, ht⟩ := List.mem_iff_getElem?.1 hc
  obtain ⟨x, hx, hxt⟩ := h2.hold t c (lt_of ht) ht
  exact satC_iff.2 ⟨x, hx, he x (List.mem_of_mem_take hxt)⟩
/-- An open variable made to hold one way: what follows. -/
theorem CS.assign {st st' : St} {i : Nat} (h : CS st i) {v : Int} (hv : okL st.n v) (ho : st.known v = false) {r : Bool} (hp : PE (st.assign v) st' r) :
    (r = true → CS st' i ∧ cnt st.n st'.f st'.trail = cnt st.n st.f (st.trail ++ [v])) ∧ (r = false → cnt st.n st.f (st.trail ++ [v]) = 0) ∧
    ∀ st2, (st2 = st' ∨ CE st' st2) → CE st (st2.back st.trail.length) ∧ st.trail.length ≤ st2.trail.length := by
  have hst1 : Tr (st.assign v) := h.tr.assign hv ho
  obtain ⟨u, hu⟩ := hp.new
  have hu' : st'.trail = (st.trail ++ [v]) ++ u := hu
  have hpf : PermF st.f st'.f := hp.pf
  have hlen : (st.trail ++ [v]).length = st.trail.length + 1 := by simp
  have tk : ∀ k, k ≤ st.trail.length → st'.trail.take k = st.trail.take k := fun k hk => by
    rw [hu', take_prefix (by rw [hlen]; omega), take_prefix hk]
  have asg : ∀ k, k ≤ st.trail.length → WAt st k → WAt (st.assign v) k := fun k hk hw => by
    unfold WAt at *
    show WI st.f ((st.trail ++ [v]).take k) ((st.trail ++ [v]).take k)
    rw [take_prefix hk]
    exact hw
  have hwat : ∀ k, k ≤ st.trail.length → WAt st k → WAt st' k := fun k hk hw => hp.bound k (by show k ≤ st.head; rw [h.head]; exact hk) (asg k hk hw)
  have hmain : WI (st.assign v).f ((st.assign v).trail.take (st.assign v).head) (st.assign v).trail := by
    show WI st.f ((st.trail ++ [v]).take st.head) (st.trail ++ [v])
    rw [h.head, take_prefix (Nat.le_refl _), List.take_length]
    have := h.wat
    unfold WAt at this
    rw [List.take_length] at this
    exact fun d hd => (this d hd).mono (fun _ h => h) (fun x hx => List.mem_append_left _ hx)
  refine ⟨fun hr => ⟨⟨hp.tr, hp.wa, by rw [hp.n]; exact h.n, by rw [← hpf.1]; exact h.m, hp.head hr, hp.main hr hmain, ?_, by rw [← hpf.1]; exact h.frm⟩, ?_⟩, fun hr => ?_, fun st2 h2 => ?_⟩
  · intro t d ht hd
    obtain ⟨d0, hd0, hperm⟩ := hpf.back hd
    obtain ⟨x, hx, hxt⟩ := h.hold t d0 ht hd0
    refine ⟨x, hperm.mem_iff.1 hx, ?_⟩
    rw [List.take_length] at hxt ⊢
    rw [hu', List.append_assoc]
    exact List.mem_append_left _ hxt
  · refine cnt_congr fun s => ?_
    rw [← hpf.sat]
    constructor
    · rintro ⟨h1, h2⟩
      rw [hu'] at h2
      exact ⟨h1, (Ext.append.1 h2).1⟩
    · rintro ⟨h1, h2⟩
      exact ⟨h1, hp.yes hr s h1 h2⟩
  · exact cnt_none fun s h1 h2 => hp.no hr s h1 h2
  · have hfacts : st2.n = st.n ∧ Tr st2 ∧ Wa st2 ∧ PermF st.f st2.f ∧ st2.trail = st'.trail ∧ ∀ b, b ≤ st.trail.length → WAt st b → WAt st2 b := by
      rcases h2 with rfl | h2
      · exact ⟨hp.n, hp.tr, hp.wa, hpf, rfl, hwat⟩
      · refine ⟨h2.n.trans hp.n, h2.tr, h2.wa, hpf.trans h2.pf, h2.trail, fun b hb hw => h2.bound b ?_ (hwat b hb hw)⟩
        rw [hu', List.append_assoc, List.length_append]; omega
    obtain ⟨f1, f2, f3, f4, f5, f6⟩ := hfacts
    have ht2 : st2.trail.take st.trail.length = st.trail := by rw [f5, tk _ (Nat.le_refl _), List.take_length]
    refine ⟨⟨f1, f2.back _, f3.back _, f4, ht2, h.head.symm, fun b hb hw => WAt.back (f6 b hb hw) hb⟩, ?_⟩
    rw [f5, hu', List.append_assoc, List.length_append]; omega
end Go.Proofs.Ytnhpfdnhnocgjaa.D
