/- Making the solver: plain. -/
import Derived.Test.YtnhpfdnhnocgjaaDpE
import Derived.Test.YtnhpfdnhnocgjaaNormEq
namespace Go.Proofs.Ytnhpfdnhnocgjaa.D
open Go.RowKit Go.Proofs.Ytnhpfdnhnocgjaa.G Go.Proofs.Ytnhpfdnhnocgjaa.Lem
set_option linter.unusedVariables false
set_option linter.unusedSimpArgs false
/-! ### what Normal leaves of a clause -/
theorem num_ok {n : Nat} {v : Int} (hn : n ≤ 65536) (h : okL n v) : num v = (v.natAbs : Int) := by
  have h1 := h.2
  rw [num_val (show W64 v by unfold W64; omega), if_neg (by omega)]
  split <;> omega
theorem row_mem {n : Nat} (hn : n ≤ 65536) {c : List Int} (hc : ∀ x ∈ c, okL n x) (v : Int) : v ∈ rowN c ↔ v ∈ c := by
  rw [rowN_mem]
  constructor
  · exact fun h => h.1
  · intro h
    have := (hc v h).1
    exact ⟨h, by rw [num_ok hn (hc v h)]; omega⟩
theorem row_sat {n : Nat} (hn : n ≤ 65536) {c : List Int} (hc : ∀ x ∈ c, okL n x) (s : Nat → Bool) : satC s (rowN c) = satC s c := by
  rw [Bool.eq_iff_iff, satC_iff, satC_iff]
  exact ⟨fun ⟨x, hx, h⟩ => ⟨x, (row_mem hn hc x).1 hx, h⟩, fun ⟨x, hx, h⟩ => ⟨x, (row_mem hn hc x).2 hx, h⟩⟩
theorem neg64 {n : Nat} (hn : n ≤ 65536) {x : Int} (h : okL n x) : wrap64 (-x) = -x := by
  have := h.2
  unfold wrap64; omega
theorem clash_true {n : Nat} (hn : n ≤ 65536) {c : List Int} (hc : ∀ x ∈ c, okL n x) (h : clash (rowN c) = true) (s : Nat → Bool) : satC s c = true := by
  unfold clash at h
  rw [List.any_eq_true] at h
  obtain ⟨i, hi, h⟩ := h
  rw [List.mem_range] at hi
  rw [Bool.and_eq_true] at h
  obtain ⟨h1, h2⟩ := h
  have h1 := of_decide_eq_true h1
  have h2 := beq_iff_eq.1 h2
  have ha : (rowN c).getD i 0 ∈ rowN c := by rw [List.getD_eq_getElem?_getD, List.getElem?_eq_getElem hi]; exact List.getElem_mem hi
  have hb : (rowN c).getD (i - 1) 0 ∈ rowN c := by rw [List.getD_eq_getElem?_getD, List.getElem?_eq_getElem (show i - 1 < (rowN c).length by omega)]; exact List.getElem_mem _
  have hb' := (row_mem hn hc _).1 hb
  have ha' := (row_mem hn hc _).1 ha
  rw [neg64 hn (hc _ hb')] at h2
  rw [satC_iff]
  cases hl : lit s ((rowN c).getD (i - 1) 0) with
  | true => exact ⟨_, hb', hl⟩
  | false => exact ⟨_, ha', by rw [h2, lit_neg s (hc _ hb').1, hl]; rfl⟩
theorem row_nd {n : Nat} (hn : n ≤ 65536) {c : List Int} (hc : ∀ x ∈ c, okL n x) (h : clash (rowN c) = false) : ((rowN c).map Int.natAbs).Nodup := by
  have hp := rowN_pair c
  rw [List.Nodup, List.pairwise_map, List.pairwise_iff_getElem]
  intro i j hi hj hij e
  have hr : ∀ k (hk : k < (rowN c).length), okL n (rowN c)[k] := fun k hk => hc _ ((row_mem hn hc _).1 (List.getElem_mem hk))
  have hpg := List.pairwise_iff_getElem.1 hp
  have hi1 : i + 1 < (rowN c).length := by omega
  have l1 := hpg i (i + 1) hi hi1 (by omega)
  have l2 : i + 1 = j ∨ lt3 (rowN c)[i + 1] (rowN c)[j] := by
    by_cases e : i + 1 = j
    · exact .inl e
    · exact .inr (hpg (i + 1) j hi1 hj (by omega))
  have n1 := num_ok hn (hr i hi)
  have n2 := num_ok hn (hr (i + 1) hi1)
  have n3 := num_ok hn (hr j hj)
  have z1 := (hr i hi).1
  have hneg : (rowN c)[i + 1] = -(rowN c)[i] := by
    have hnum : ((rowN c)[i + 1]).natAbs = ((rowN c)[i]).natAbs := by
      unfold lt3 at l1 l2
      rcases l2 with l2 | l2
      · subst l2; exact e.symm
      · omega
    unfold lt3 at l1
    omega
  unfold clash at h
  rw [List.any_eq_false] at h
  refine h (i + 1) (List.mem_range.2 hi1) ?_
  rw [Bool.and_eq_true]
  refine ⟨decide_eq_true (by omega), beq_iff_eq.2 ?_⟩
  rw [Nat.add_sub_cancel, List.getD_eq_getElem?_getD, List.getD_eq_getElem?_getD, List.getElem?_eq_getElem hi1, List.getElem?_eq_getElem hi]
  show (rowN c)[i + 1] = wrap64 (-(rowN c)[i])
  rw [neg64 hn (hr i hi)]
  exact hneg
/-! ### the solver while it is made -/
structure MS (n : Nat) (G : List (List Int)) (st : St) : Prop where
  n : st.n = n
  head : st.head = 0
  tr : Tr st
  wa : Wa st
  m : st.f.length ≤ G.length
  sem : ∀ s, satF s G = true ↔ (satF s st.f = true ∧ Ext s st.trail)
def st0 (n : Nat) : St := ⟨n, [], List.replicate (2 * n + 2) [], List.replicate (n + 1) false, List.replicate (n + 1) false, [], 0⟩
theorem getD_rep {α : Type} (m k : Nat) (d : α) : (List.replicate m d).getD k d = d := by
  rw [List.getD_eq_getElem?_getD, List.getElem?_replicate]
  split <;> rfl
theorem MS.start (n : Nat) : MS n [] (st0 n) := by
  refine ⟨rfl, rfl, ⟨?_, ?_, ?_, ?_, ?_, ?_⟩, ⟨?_, ?_, ?_, ?_⟩, Nat.le_refl _, ?_⟩
  · exact List.length_replicate
  · exact List.length_replicate
  · intro x hx; cases hx
  · exact List.nodup_nil
  · intro k
    show (List.replicate (n + 1) false).getD k false = true ↔ k ∈ List.map Int.natAbs []
    rw [getD_rep]; simp
  · intro x hx; cases hx
  · intro c hc; cases hc
  · exact List.length_replicate
  · intro u hu
    show ((List.replicate (2 * n + 2) ([] : List Nat)).getD (pl u) []).Nodup
    rw [getD_rep]; exact List.nodup_nil
  · intro u hu i
    show i ∈ ((List.replicate (2 * n + 2) ([] : List Nat)).getD (pl u) []) ↔ _
    rw [getD_rep]
    constructor
    · intro h; cases h
    · rintro ⟨c, hc, _⟩; cases hc
  · intro s
    constructor
    · exact fun _ => ⟨rfl, fun x hx => nomatch hx⟩
    · exact fun _ => rfl
theorem satF_snoc (s : Nat → Bool) (G : List (List Int)) (c : List Int) : satF s (G ++ [c]) = true ↔ satF s G = true ∧ satC s c = true := by
  rw [satF_append, Bool.and_eq_true]
  refine and_congr_right fun _ => ?_
  unfold satF
  simp
section
variable {n : Nat} {G : List (List Int)} {st : St} {c : List Int}
theorem MS.same (h : MS n G st) (hs : ∀ s, Ext s st.trail → satC s c = true) : MS n (G ++ [c]) st := by
  refine ⟨h.n, h.head, h.tr, h.wa, by rw [List.length_append]; have := h.m; omega, fun s => ?_⟩
  rw [satF_snoc, h.sem]
  exact ⟨fun hx => hx.1, fun hx => ⟨hx, hs s hx.2⟩⟩
theorem Wa.assign (h : Wa st) (v : Int) : Wa (st.assign v) := ⟨h.cl, h.hi, h.nd, h.mem⟩
theorem Ext.one {s : Nat → Bool} {x : Int} : Ext s [x] ↔ lit s x = true := by
  unfold Ext
  simp
theorem MS.unit (h : MS n G st) {x : Int} (hx : okL n x) (hc : ∀ s, satC s c = lit s x) (ho : st.known x = false) : MS n (G ++ [c]) (st.assign x) := by
  refine ⟨h.n, h.head, h.tr.assign (by rw [h.n]; exact hx) ho, h.wa.assign x, by rw [List.length_append]; have := h.m; show st.f.length ≤ _; omega, fun s => ?_⟩
  rw [satF_snoc, h.sem, hc]
  show _ ↔ satF s st.f = true ∧ Ext s (st.trail ++ [x])
  rw [Ext.append, Ext.one]
  exact ⟨fun ⟨⟨a, b⟩, c⟩ => ⟨a, b, c⟩, fun ⟨a, b, c⟩ => ⟨⟨a, b⟩, c⟩⟩
/-- A clause of two or more is put in. -/
def St.put (st : St) (a b : Int) (r : List Int) : St :=
  { st with inn := (st.inn.set (pl a) (st.row a ++ [st.f.length])).set (pl b) (st.row b ++ [st.f.length]), f := st.f ++ [r] }
theorem row_put {st : St} {a b : Int} {r : List Int} (ha : pl a < st.inn.length) (hb : pl b < st.inn.length) (hab : a ≠ b) (u : Int) : (st.put a b r).row u = if u = a ∨ u = b then st.row u ++ [st.f.length] else st.row u := by
  show ((st.inn.set (pl a) (st.row a ++ [st.f.length])).set (pl b) (st.row b ++ [st.f.length])).getD (pl u) [] = _
  by_cases h1 : u = b
  · subst h1
    rw [getD_set_self (by rw [List.length_set]; exact hb), if_pos (.inr rfl)]
  · rw [getD_set_ne (fun e => h1 (pl_inj e).symm)]
    by_cases h2 : u = a
    · subst h2
      rw [getD_set_self ha, if_pos (.inl rfl)]
    · rw [getD_set_ne (fun e => h2 (pl_inj e).symm), if_neg (by rintro (h | h); exact h2 h; exact h1 h)]
      rfl
theorem MS.put (h : MS n G st) {r : List Int} {a b : Int} (hr : Cl n r) (ha : r[0]? = some a) (hb : r[1]? = some b) (hs : ∀ s, satC s c = satC s r) : MS n (G ++ [c]) (st.put a b r) := by
  have oa : okL n a := hr.ok a (List.mem_iff_getElem?.2 ⟨0, ha⟩)
  have ob : okL n b := hr.ok b (List.mem_iff_getElem?.2 ⟨1, hb⟩)
  have pa : pl a < st.inn.length := by rw [h.wa.hi, h.n]; exact pl_lt oa
  have pb : pl b < st.inn.length := by rw [h.wa.hi, h.n]; exact pl_lt ob
  have hab : a ≠ b := by
    intro e
    have := hr.nd
    rw [List.Nodup, List.pairwise_map, List.pairwise_iff_getElem] at this
    have l1 : 1 < r.length := hr.two
    refine this 0 1 (by omega) l1 (by omega) ?_
    rw [List.getElem?_eq_getElem (by omega)] at ha hb
    injection ha with ha
    injection hb with hb
    rw [ha, hb, e]
  have hlt : ∀ u, okL n u → ∀ i ∈ st.row u, i < st.f.length := fun u hu i hi => by
    obtain ⟨c', hc', _⟩ := (h.wa.mem u (by rw [h.n]; exact hu) i).1 hi
    exact lt_of hc'
  refine ⟨h.n, h.head, ⟨h.tr.lv, h.tr.ls, h.tr.ok, h.tr.nd, h.tr.hs, h.tr.hv⟩, ⟨?_, ?_, ?_, ?_⟩, ?_, ?_⟩
  · intro d hd
    show Cl st.n d
    rcases List.mem_append.1 hd with hd | hd
    · exact h.wa.cl d hd
    · rw [List.mem_singleton.1 hd, h.n]; exact hr
  · show ((st.inn.set _ _).set _ _).length = 2 * st.n + 2
    rw [List.length_set, List.length_set]; exact h.wa.hi
  · intro u hu
    have hu' : okL st.n u := hu
    rw [row_put pa pb hab]
    have hnd := h.wa.nd u hu'
    split
    · rw [List.nodup_append]
      refine ⟨hnd, by simp, ?_⟩
      intro i hi j hj
      have := hlt u (by rw [← h.n]; exact hu') i hi
      have : j = st.f.length := by simpa using hj
      omega
    · exact hnd
  · intro u hu i
    have hu' : okL st.n u := hu
    have hm := h.wa.mem u hu' i
    show i ∈ (st.put a b r).row u ↔ ∃ c, (st.f ++ [r])[i]? = some c ∧ _
    rw [row_put pa pb hab]
    by_cases hi : i < st.f.length
    · rw [List.getElem?_append_left hi, ← hm]
      split
      · rw [List.mem_append]
        constructor
        · rintro (h' | h')
          · exact h'
          · have : i = st.f.length := by simpa using h'
            omega
        · exact fun h' => .inl h'
      · exact Iff.rfl
    · by_cases hi' : i = st.f.length
      · subst hi'
        have hno : st.f.length ∉ st.row u := fun hx => by have := hlt u (by rw [← h.n]; exact hu') _ hx; omega
        have hget : (st.f ++ [r])[st.f.length]? = some r := by simp
        rw [hget]
        have e1 : (∃ c, some r = some c ∧ (c[0]? = some u ∨ c[1]? = some u)) ↔ (u = a ∨ u = b) := by
          constructor
          · rintro ⟨c', hc', hx⟩
            injection hc' with hc'
            subst hc'
            rw [ha, hb] at hx
            rcases hx with hx | hx
            · injection hx with hx; exact .inl hx.symm
            · injection hx with hx; exact .inr hx.symm
          · rintro (rfl | rfl)
            · exact ⟨r, rfl, .inl ha⟩
            · exact ⟨r, rfl, .inr hb⟩
        rw [e1]
        split
        · rename_i hx
          exact ⟨fun _ => hx, fun _ => List.mem_append_right _ (by simp)⟩
        · rename_i hx
          exact ⟨fun h' => absurd h' hno, fun h' => absurd h' hx⟩
      · have hget : (st.f ++ [r])[i]? = none := by rw [List.getElem?_eq_none_iff, List.length_append, List.length_singleton]; omega
        rw [hget]
        constructor
        · intro h'
          exfalso
          split at h'
          · rcases List.mem_append.1 h' with h' | h'
            · exact hi (hlt u (by rw [← h.n]; exact hu') i h')
            · exact hi' (by simpa using h')
          · exact hi (hlt u (by rw [← h.n]; exact hu') i h')
        · rintro ⟨c', hc', _⟩; cases hc'
  · show (st.f ++ [r]).length ≤ (G ++ [c]).length
    rw [List.length_append, List.length_append]
    have := h.m
    simp
    omega
  · intro s
    show _ ↔ satF s (st.f ++ [r]) = true ∧ Ext s st.trail
    rw [satF_snoc, satF_snoc, h.sem, hs]
    exact ⟨fun ⟨⟨a, b⟩, c⟩ => ⟨⟨a, c⟩, b⟩, fun ⟨⟨a, c⟩, b⟩ => ⟨⟨a, b⟩, c⟩⟩
end
/-- What is made at last. -/
theorem MS.fin {n : Nat} {F : List (List Int)} {st st' : St} (h : MS n F st) (hn : n ≤ 65536) (hm : F.length ≤ 5864062014804) (hp : PE st st' true) : RS F st'.trail.length st' [] true 0 := by
  have hy := hp.yes rfl
  obtain ⟨u, hu⟩ := hp.new
  refine ⟨⟨hp.tr, hp.wa, by rw [hp.n, h.n]; exact hn, by rw [← hp.pf.1]; have := h.m; omega, Nat.le_refl _, fun s => ?_⟩, fun _ => ⟨hp.head rfl, hp.main rfl ?_, rfl, fun t c ht => absurd ht (Nat.not_lt_zero _), Nat.zero_le _⟩, fun e => nomatch e⟩
  · rw [List.take_length, h.sem, ← hp.pf.sat s]
    constructor
    · rintro ⟨a, b⟩
      exact ⟨a, hy s a b⟩
    · rintro ⟨a, b⟩
      rw [hu, Ext.append] at b
      exact ⟨a, b.1⟩
  · rw [h.head]
    intro c hc a b ha hb
    exact ⟨fun hx => absurd hx (by simp), fun hx => absurd hx (by simp)⟩
theorem MS.none {n : Nat} {F : List (List Int)} {st st' : St} (h : MS n F st) (hp : PE st st' false) (s : Nat → Bool) (hs : satF s F = true) : False := by
  obtain ⟨a, b⟩ := (h.sem s).1 hs
  exact hp.no rfl s a b
/-- What clause.Normal answers, by what it means. -/
theorem norm_cases {n : Nat} (hn : n ≤ 65536) {c : List Int} (hc : ∀ x ∈ c, okL n x) : (∃ r1, normN c = (r1, true) ∧ ∀ s, satC s c = true) ∨ (normN c = ([], false) ∧ ∀ s, satC s c = false) ∨ (∃ x, normN c = ([x], false) ∧ okL n x ∧ ∀ s, satC s c = lit s x) ∨ ∃ a b r, normN c = (a :: b :: r, false) ∧ Cl n (a :: b :: r) ∧ ∀ s, satC s c = satC s (a :: b :: r) := by
  rw [normN_eq]
  unfold endN
  have hs := row_sat hn hc
  have hm := row_mem hn hc
  cases hcl : clash (rowN c) with
  | true => exact .inl ⟨[], by rw [if_pos rfl], clash_true hn hc hcl⟩
  | false =>
    have hnd := row_nd hn hc hcl
    rw [if_neg (by decide)]
    generalize rowN c = R at *
    match R with
    | [] => exact .inr (.inl ⟨rfl, fun s => (hs s).symm⟩)
    | [x] => exact .inr (.inr (.inl ⟨x, rfl, hc x ((hm x).1 (by simp)), fun s => by rw [← hs]; unfold satC; simp⟩))
    | a :: b :: r => exact .inr (.inr (.inr ⟨a, b, r, rfl, ⟨by simp, fun x hx => hc x ((hm x).1 hx), hnd⟩, fun s => (hs s).symm⟩))
theorem satF_take {s : Nat → Bool} {F : List (List Int)} (i : Nat) (h : satF s F = true) : satF s (F.take i) = true := by
  rw [satF_iff] at h ⊢
  exact fun c hc => h c (List.mem_of_mem_take hc)
theorem take_get {α : Type} {F : List α} {i : Nat} {c : α} (h : F[i]? = some c) : F.take (i + 1) = F.take i ++ [c] := by
  obtain ⟨hi, e⟩ := List.getElem?_eq_some_iff.1 h
  rw [List.take_add_one, h]; rfl
/-- The two watches and the clause: what is put in. -/
theorem put_eq {st : St} {a b : Int} {r : List Int} (hab : a ≠ b) : st.put a b r = { ({ ({ st with inn := st.inn.set (pl a) (st.row a ++ [st.f.length]) } : St) with inn := (st.inn.set (pl a) (st.row a ++ [st.f.length])).set (pl b) (({ st with inn := st.inn.set (pl a) (st.row a ++ [st.f.length]) } : St).row b ++ [st.f.length]) } : St) with f := st.f ++ [r] } := by
  have e : ({ st with inn := st.inn.set (pl a) (st.row a ++ [st.f.length]) } : St).row b = st.row b := by
    show (st.inn.set (pl a) (st.row a ++ [st.f.length])).getD (pl b) [] = _
    rw [getD_set_ne (fun e => hab (pl_inj e))]
    rfl
  rw [e]
  rfl
end Go.Proofs.Ytnhpfdnhnocgjaa.D
