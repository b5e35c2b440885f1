/- watch: walked over the relation. -/
import Derived.Test.YtnhpfdnhnocgjaaHpC
import Derived.Deep.RegionLaw
namespace Go.Proofs.Ytnhpfdnhnocgjaa.S
open Go.RowKit Go.Proofs.Ytnhpfdnhnocgjaa.D Go.Proofs.YtnhpfdnhnocgjaaW.PrintWords Go.Proofs.YtnhpfdnhnocgjaaW.PrintLast Go.Proofs.YtnhpfdnhnocgjaaW.PrintMore
set_option linter.unusedVariables false
set_option linter.unusedSimpArgs false
/-- Only one row of the watches may be another. -/
def Watched (w : World) (ow : Nat → Option Role) (B : Nat) (st' : St) (vf vi vv vs vt : Value) (fs is : List SL) (k : Nat) (w' : World) : Prop := ∃ ow' s2, Fr ow ow' w w' ∧ Rp w' ow' B st' vf vi vv vs vt fs (is.set k s2)
/-- The row of a literal, found. -/
theorem Rp.liAt {w : World} {ow : Nat → Option Role} {B : Nat} {st : St} {vf vi vv vs vt : Value} {fs is : List SL} (h : Rp w ow B st vf vi vv vs vt fs is) {k : Nat} (hk : k < st.inn.length) :
    ∃ gi ci s, vi = .slice (some ⟨gi, 0, none⟩) st.inn.length ci ∧ ow gi = some .inn ∧ is[k]? = some s ∧ s.n = (st.inn.getD k []).length ∧ OR (Kd.int .i64) 3 w ow (.li k) s.v (ints (st.inn.getD k [])) ∧ w.cell? ⟨gi, k, none⟩ = some s.v ∧ w.frozen? ⟨gi, k, none⟩ = false := by
  have hk' : k < is.length := by rw [h.il]; exact hk
  obtain ⟨gi, ci, he, ho, _, hc⟩ := h.i.slCell (by omega)
  have hs : is[k]? = some is[k] := List.getElem?_eq_getElem hk'
  have hl : st.inn[k]? = some (st.inn.getD k []) := by rw [List.getD_eq_getElem?_getD, List.getElem?_eq_getElem hk]; rfl
  have hO := h.ic k _ _ hs hl
  obtain ⟨c1, c2⟩ := hc k _ hs
  obtain ⟨A, c, hv⟩ := Kd.R_slice hO
  refine ⟨gi, ci, _, by rw [he, h.il], ho, hs, ?_, hO, c1, c2⟩
  unfold SL.v at hv
  injection hv with _ hn _
  rw [hn, ints_length]
set_option maxRecDepth 100000 in
set_option maxHeartbeats 4000000 in
theorem watch27 {w : World} {ow : Nat → Option Role} {B : Nat} {st : St} {vf vi vv vs vt : Value} {fs is : List SL} (h : Rp w ow B st vf vi vv vs vt fs is) (hi : st.inn.length = 2 * st.n + 2) (hn : st.n ≤ 65536) {v : Int} (hv : okL st.n v) (i : Nat) (hl : (st.row v).length ≤ 5864062014804) :
    Calls Try.prog 27 #[.pointer (some ⟨B, 0, none⟩), .int .i64 v, .int .i64 (i : Int)] w fun e w' => e = .returned (.tuple #[]) ∧ Watched w ow B { st with inn := st.inn.set (pl v) (st.row v ++ [i]) } vf vi vv vs vt fs is (pl v) w' := by
  have hpl := pl_lt hv
  have HA : Aside0 (∀ W : World, Calls Try.prog 41 #[.int .i64 v] W fun e w' => e = .returned (.int .i64 (pl v : Int)) ∧ W = w') := ⟨fun W => at41 v st.n hn hv W⟩
  have hrow : st.row v = st.inn.getD (pl v) [] := rfl
  rw [hrow] at hl ⊢
  clear hrow
  obtain ⟨k, hk⟩ : ∃ k, pl v = k := ⟨_, rfl⟩
  rw [hk] at hl HA hpl ⊢
  clear hk
  have hki : k < st.inn.length := by omega
  obtain ⟨gi, ci, s, rfl, ogi, hs, hsn, hO, x1, f1⟩ := h.liAt hki
  have c2 := (cells51 h).2.2.1
  have H := Aside0.mk h
  have hnB : B ≠ gi := fun e => by rw [← e, h.bo] at ogi; cases ogi
  have HS := Aside0.mk (And.intro hs ogi)
  have HO := Aside0.mk hO
  have hln : (ints (st.inn.getD k [])).length = s.n := by rw [ints_length, hsn]
  have HL := Aside0.mk hln
  obtain ⟨A, n, c⟩ := s
  replace HL : Aside0 ((ints (st.inn.getD k [])).length = n) := HL
  replace x1 : w.cell? ⟨gi, k, none⟩ = some (.slice A n c) := x1
  replace HO : Aside0 (OR (Kd.int .i64) 3 w ow (.li k) (.slice A n c) (ints (st.inn.getD k []))) := HO
  have HL2 : Aside0 (((ints (st.inn.getD k [])).length + 1) * 8 ≤ 140737488355328) := ⟨by rw [ints_length]; omega⟩
  obtain ⟨ni, hni⟩ : ∃ ni, st.inn.length = ni := ⟨_, rfl⟩
  have p1 : (k : Int) < (ni : Int) := by omega
  have p0 : (0 : Int) ≤ (k : Int) := by omega
  have c2' : (some (Value.slice (some ⟨gi, 0, none⟩) st.inn.length ci) : Option Value) = some (.slice (some ⟨gi, 0, none⟩) ni ci) := by rw [hni]
  rw [hni] at c2
  obtain ⟨L, hL⟩ : ∃ L, ints (st.inn.getD k []) = L := ⟨_, rfl⟩
  have hLi : ints (st.inn.getD k [] ++ [i]) = L ++ [(i : Int)] := by rw [← hL]; unfold ints; rw [List.map_append]; rfl
  rw [hL] at HO HL2
  have HLI := Aside0.mk hLi
  clear HL hL hLi
  have hgi : gi < w.heap.size := World.block_lt_of_cell? _ _ x1
  have hB : B < w.heap.size := World.block_lt_of_cell? _ _ c2
  have hfact : ∀ W, Below w.heap.size w W → W.cell? ⟨B, 2, none⟩ = some (.slice (some ⟨gi, 0, none⟩) ni ci) ∧ W.cell? ⟨gi, k, none⟩ = some (.slice A n c) := fun W hb => ⟨cell_later hb c2, cell_later hb x1⟩
  have HF := Aside0.mk hfact
  have hO3 : OR (Kd.int .i64) 3 w.drew ow (.li k) (.slice A n c) L := HO.out.below (bd_drew w)
  have HO3 := Aside0.mk hO3
  have R3 := Aside0.mk (H.out.below (bd_drew w))
  have HG : Aside0 (∀ w1 ow1, Chg ow ow1 w.drew w1 (.li k) → (w1.cell? ⟨B, 2, none⟩ = some (.slice (some ⟨gi, 0, none⟩) ni ci) ∧ w1.cell? ⟨gi, k, none⟩ = some (.slice A n c)) ∧ w1.frozen? ⟨gi, k, none⟩ = false) := ⟨fun w1 ow1 hc => by
    have hb := box_chg R3.out.box R3.out.bo hc (by simp)
    have hi : OR kSl 37 w1 _ .inn (.slice (some ⟨gi, 0, none⟩) st.inn.length ci) is := R3.out.i.chg hc (by simp)
    obtain ⟨g', c', he, _, _, hcc⟩ := hi.slCell (by have := lt_of HS.out.1; omega)
    have hgg : gi = g' := by injection he with ha _ _; injection ha with ha; injection ha
    subst hgg
    refine ⟨⟨((blk_cell hb.1 2).trans rfl).trans c2', (hcc k _ HS.out.1).1⟩, (hcc k _ HS.out.1).2⟩⟩
  have HG2 : Aside0 (∀ (w1 : World) (ow1 : Nat → Option Role) (u : Value), Chg ow ow1 w.drew w1 (.li k) → (w1.setCell ⟨gi, k, none⟩ u).cell? ⟨B, 2, none⟩ = some (.slice (some ⟨gi, 0, none⟩) ni ci)) := ⟨fun w1 ow1 u hc => by
    have hb := box_chg R3.out.box R3.out.bo hc (by simp)
    have ho : ow1 gi = some .inn := (hc.own gi hgi).trans HS.out.2
    have hb2 := box_chg hb.1 hb.2 (Chg.set ho k u) (by simp)
    exact ((blk_cell hb2.1 2).trans rfl).trans c2'⟩
  clear hO hs ogi h hln hsn hl hi hn hv hpl hki hni hfact hO3
  go_enter Try.func27, Try.ntmps27
  go_wp2
  have c2d : w.drew.cell? ⟨B, 2, none⟩ = some (.slice (some ⟨gi, 0, none⟩) ni ci) := c2
  have x1d : w.drew.cell? ⟨gi, k, none⟩ = some (.slice A n c) := x1
  refine start_ (n := 19) (S := fun w' => w'.cell? ⟨B, 2, none⟩ = some (.slice (some ⟨gi, 0, none⟩) ni ci) ∧ w'.cell? ⟨gi, k, none⟩ = some (.slice A n c)) (ds := [18]) #[false, false, false, false, false, false, false, false, false, false, false, false, false, false, false, false, false, false, false] (by kernel_rfl) rfl rfl ⟨c2d, x1d⟩ (fun hHeld => ?_)
  refine pure_ (i := 0) (N := some 6) (v := ?_) (a' := ?_) #[true, false, false, false, false, false, false, false, false, false, false, false, false, false, false, false, false, false, false] rfl rfl (by kernel_rfl) (fun _ _ _ h => h) (Or.inl ⟨by rfl, ?_⟩) ?_ ?_
  rotate_left
  · intro w'
    go_simp
    with_reducible rfl
  rotate_left
  · simp only [Act.put, List.setIfInBounds_toArray, List.set_cons_zero, List.set_cons_succ, i64_w, i32_w]
    rfl
  refine pure_ (i := 1) (N := some 7) (v := ?_) (a' := ?_) #[true, true, false, false, false, false, false, false, false, false, false, false, false, false, false, false, false, false, false] rfl rfl (by kernel_rfl) (fun _ _ _ h => h) (Or.inl ⟨by rfl, ?_⟩) ?_ ?_
  rotate_left
  · intro w'
    go_simp
    with_reducible rfl
  rotate_left
  · simp only [Act.put, List.setIfInBounds_toArray, List.set_cons_zero, List.set_cons_succ, i64_w, i32_w]
    rfl
  refine pure_ (i := 2) (N := some 8) (v := ?_) (a' := ?_) #[true, true, true, false, false, false, false, false, false, false, false, false, false, false, false, false, false, false, false] rfl rfl (by kernel_rfl) (fun _ _ _ h => h) (Or.inl ⟨by rfl, ?_⟩) ?_ ?_
  rotate_left
  · intro w'
    go_simp
    with_reducible rfl
  rotate_left
  · simp only [Act.put, List.setIfInBounds_toArray, List.set_cons_zero, List.set_cons_succ, i64_w, i32_w]
    rfl
  refine pure_ (i := 4) (N := some 10) (v := ?_) (a' := ?_) #[true, true, true, false, true, false, false, false, false, false, false, false, false, false, false, false, false, false, false] rfl rfl (by kernel_rfl) (fun _ _ _ h => h) (Or.inl ⟨by rfl, ?_⟩) ?_ ?_
  rotate_left
  · intro w'
    go_simp
    with_reducible rfl
  rotate_left
  · simp only [Act.put, List.setIfInBounds_toArray, List.set_cons_zero, List.set_cons_succ, i64_w, i32_w]
    rfl
  refine pure_ (i := 6) (N := some 12) (v := ?_) (a' := ?_) #[true, true, true, false, true, false, true, false, false, false, false, false, false, false, false, false, false, false, false] rfl rfl (by kernel_rfl) (fun _ _ _ h => h) (Or.inl ⟨by rfl, ?_⟩) ?_ ?_
  rotate_left
  · intro w'
    go_simp
    with_reducible rfl
  rotate_left
  · simp only [Act.put, List.setIfInBounds_toArray, List.set_cons_zero, List.set_cons_succ, i64_w, i32_w]
    rfl
  refine pure_ (i := 7) (N := some 13) (v := ?_) (a' := ?_) #[true, true, true, false, true, false, true, true, false, false, false, false, false, false, false, false, false, false, false] rfl rfl (by kernel_rfl) (fun _ _ _ h => h) (Or.inl ⟨by rfl, ?_⟩) ?_ ?_
  rotate_left
  · intro w'
    go_simp
    with_reducible rfl
  rotate_left
  · simp only [Act.put, List.setIfInBounds_toArray, List.set_cons_zero, List.set_cons_succ, i64_w, i32_w]
    rfl
  refine pure_ (i := 8) (N := some 14) (v := ?_) (a' := ?_) #[true, true, true, false, true, false, true, true, true, false, false, false, false, false, false, false, false, false, false] rfl rfl (by kernel_rfl) (fun _ _ _ h => h) (Or.inl ⟨by rfl, ?_⟩) ?_ ?_
  rotate_left
  · intro w'
    go_simp
    with_reducible rfl
  rotate_left
  · simp only [Act.put, List.setIfInBounds_toArray, List.set_cons_zero, List.set_cons_succ, i64_w, i32_w]
    rfl
  refine pure_ (i := 10) (N := some 16) (v := ?_) (a' := ?_) #[true, true, true, false, true, false, true, true, true, false, true, false, false, false, false, false, false, false, false] rfl rfl (by kernel_rfl) (fun _ _ _ h => h) (Or.inl ⟨by rfl, ?_⟩) ?_ ?_
  rotate_left
  · intro w'
    go_simp
    with_reducible rfl
  rotate_left
  · simp only [Act.put, List.setIfInBounds_toArray, List.set_cons_zero, List.set_cons_succ, i64_w, i32_w]
    rfl
  refine pure_ (i := 14) (N := some 20) (v := ?_) (a' := ?_) #[true, true, true, false, true, false, true, true, true, false, true, false, false, false, true, false, false, false, false] rfl rfl (by kernel_rfl) (fun _ _ _ h => h) (Or.inl ⟨by rfl, ?_⟩) ?_ ?_
  rotate_left
  · intro w'
    go_simp
    with_reducible rfl
  rotate_left
  · simp only [Act.put, List.setIfInBounds_toArray, List.set_cons_zero, List.set_cons_succ, i64_w, i32_w]
    rfl
  refine take_ (i := 3) (N := some 9) (v := ?_) (a' := ?_) #[true, true, true, true, true, false, true, true, true, false, true, false, false, false, true, false, false, false, false] rfl rfl (by kernel_rfl) (fun _ _ _ h => h) (Or.inl ⟨by rfl, ?_⟩) hHeld ?_ ?_
  rotate_left
  · rintro w' ⟨s0, s1⟩
    go_simp
    with_reducible rfl
  rotate_left
  · simp only [Act.put, List.setIfInBounds_toArray, List.set_cons_zero, List.set_cons_succ, i64_w, i32_w]
    rfl
  refine take_ (i := 9) (N := some 15) (v := ?_) (a' := ?_) #[true, true, true, true, true, false, true, true, true, true, true, false, false, false, true, false, false, false, false] rfl rfl (by kernel_rfl) (fun _ _ _ h => h) (Or.inl ⟨by rfl, ?_⟩) hHeld ?_ ?_
  rotate_left
  · rintro w' ⟨s0, s1⟩
    go_simp
    with_reducible rfl
  rotate_left
  · simp only [Act.put, List.setIfInBounds_toArray, List.set_cons_zero, List.set_cons_succ, i64_w, i32_w]
    rfl
  refine join_ (σ := Unit) 3 #[true, true, true, true, true, true, true, true, true, true, true, true, true, true, true, true, false, false, false] (fun _ => [(11, .int .i64 (k : Int)), (17, .int .i64 (k : Int)), (18, .pointer (some ⟨gi, k, none⟩)), (19, .slice A n c), (21, .slice (some ⟨w.heap.size, 0, none⟩) 1 1)]) (fun _ w' => w' = w.drew.alloc (.cells #[.int .i64 (i : Int)] 3)) ?_ ?_
  rotate_left
  · intro hCont
    refine two_ (i := 5) (j := 15) (Ni := some 11) (Nj := some 21) #[true, true, true, true, true, true, true, true, true, true, true, false, false, false, true, false, false, false, false] #[true, true, true, true, true, false, true, true, true, true, true, false, false, false, true, true, false, false, false] rfl rfl rfl rfl (by kernel_rfl) (by decide) (by decide) (fun K hK => ?_) (fun K hK => ?_)
    · skip
      refine goes_ Try.func41 (by kernel_rfl) rfl #[.int .i64 v] (by rfl) rfl rfl (by simp only [List.map_toArray, List.map_cons, List.map_nil]; rfl) ?_
      with_reducible refine (HA.out _).mono ?_
      rintro e w' ⟨rfl, rfl⟩
      refine ⟨_, rfl, ?_⟩
      refine hK.out _ _ ⟨hHeld.1, hHeld.2⟩ (fun hHeld => ?_)
      clear hK K
      refine norm_ (a' := ?_) ?_ ?_
      rotate_left
      · show Act.put _ (some 11) _ = _
        simp only [Act.put, List.setIfInBounds_toArray, List.set_cons_zero, List.set_cons_succ, i64_w, i32_w]
        rfl
      refine two_ (i := 11) (j := 15) (Ni := some 17) (Nj := some 21) #[true, true, true, true, true, true, true, true, true, true, true, true, false, false, true, false, false, false, false] #[true, true, true, true, true, true, true, true, true, true, true, false, false, false, true, true, false, false, false] rfl rfl rfl rfl (by kernel_rfl) (by decide) (by decide) (fun K hK => ?_) (fun K hK => ?_)
      · skip
        refine goes_ Try.func41 (by kernel_rfl) rfl #[.int .i64 v] (by rfl) rfl rfl (by simp only [List.map_toArray, List.map_cons, List.map_nil]; rfl) ?_
        with_reducible refine (HA.out _).mono ?_
        rintro e w' ⟨rfl, rfl⟩
        refine ⟨_, rfl, ?_⟩
        refine hK.out _ _ ⟨hHeld.1, hHeld.2⟩ (fun hHeld => ?_)
        clear hK K
        refine norm_ (a' := ?_) ?_ ?_
        rotate_left
        · show Act.put _ (some 17) _ = _
          simp only [Act.put, List.setIfInBounds_toArray, List.set_cons_zero, List.set_cons_succ, i64_w, i32_w]
          rfl
        refine pure_ (i := 12) (N := some 18) (v := ?_) (a' := ?_) #[true, true, true, true, true, true, true, true, true, true, true, true, true, false, true, false, false, false, false] rfl rfl (by kernel_rfl) (fun _ _ _ h => h) (Or.inl ⟨by rfl, ?_⟩) ?_ ?_
        rotate_left
        · intro w'
          go_simp
          with_reducible rfl
        rotate_left
        · simp only [Act.put, List.setIfInBounds_toArray, List.set_cons_zero, List.set_cons_succ, i64_w, i32_w]
          rfl
        refine take_ (i := 13) (N := some 19) (v := ?_) (a' := ?_) #[true, true, true, true, true, true, true, true, true, true, true, true, true, true, true, false, false, false, false] rfl rfl (by kernel_rfl) (fun _ _ _ h => h) (Or.inl ⟨by rfl, ?_⟩) hHeld ?_ ?_
        rotate_left
        · rintro w' ⟨s0, s1⟩
          go_simp
          with_reducible rfl
        rotate_left
        · simp only [Act.put, List.setIfInBounds_toArray, List.set_cons_zero, List.set_cons_succ, i64_w, i32_w]
          rfl
        refine one_ (i := 15) (N := some 21) #[true, true, true, true, true, true, true, true, true, true, true, true, true, true, true, true, false, false, false] rfl rfl (by kernel_rfl) (by decide) (fun K hK => ?_)
        refine value_ (w1 := ?_) (v := ?_) (by rfl) rfl ?_ ?_
        rotate_left 2
        · go_simp
          constructor
          · rfl
          · rfl
        refine hK.out _ _ ⟨cell_later (below_alloc (Below.refl _ _) _) hHeld.1, cell_later (below_alloc (Below.refl _ _) _) hHeld.2⟩ (fun hHeld => ?_)
        clear hK K
        refine norm_ (a' := ?_) ?_ ?_
        rotate_left
        · show Act.put _ (some 21) _ = _
          simp only [Act.put, List.setIfInBounds_toArray, List.set_cons_zero, List.set_cons_succ, i64_w, i32_w]
          rfl
        exact norm_ (by simp only [putAll, Act.put, List.setIfInBounds_toArray, List.set_cons_zero, List.set_cons_succ]) (hCont () _ rfl)
      · skip
        refine value_ (w1 := ?_) (v := ?_) (by rfl) rfl ?_ ?_
        rotate_left 2
        · go_simp
          constructor
          · rfl
          · rfl
        refine hK.out _ _ ⟨cell_later (below_alloc (Below.refl _ _) _) hHeld.1, cell_later (below_alloc (Below.refl _ _) _) hHeld.2⟩ (fun hHeld => ?_)
        clear hK K
        refine norm_ (a' := ?_) ?_ ?_
        rotate_left
        · show Act.put _ (some 21) _ = _
          simp only [Act.put, List.setIfInBounds_toArray, List.set_cons_zero, List.set_cons_succ, i64_w, i32_w]
          rfl
        refine one_ (i := 11) (N := some 17) #[true, true, true, true, true, true, true, true, true, true, true, true, false, false, true, true, false, false, false] rfl rfl (by kernel_rfl) (by decide) (fun K hK => ?_)
        refine goes_ Try.func41 (by kernel_rfl) rfl #[.int .i64 v] (by rfl) rfl rfl (by simp only [List.map_toArray, List.map_cons, List.map_nil]; rfl) ?_
        with_reducible refine (HA.out _).mono ?_
        rintro e w' ⟨rfl, rfl⟩
        refine ⟨_, rfl, ?_⟩
        refine hK.out _ _ ⟨hHeld.1, hHeld.2⟩ (fun hHeld => ?_)
        clear hK K
        refine norm_ (a' := ?_) ?_ ?_
        rotate_left
        · show Act.put _ (some 17) _ = _
          simp only [Act.put, List.setIfInBounds_toArray, List.set_cons_zero, List.set_cons_succ, i64_w, i32_w]
          rfl
        refine pure_ (i := 12) (N := some 18) (v := ?_) (a' := ?_) #[true, true, true, true, true, true, true, true, true, true, true, true, true, false, true, true, false, false, false] rfl rfl (by kernel_rfl) (fun _ _ _ h => h) (Or.inl ⟨by rfl, ?_⟩) ?_ ?_
        rotate_left
        · intro w'
          go_simp
          with_reducible rfl
        rotate_left
        · simp only [Act.put, List.setIfInBounds_toArray, List.set_cons_zero, List.set_cons_succ, i64_w, i32_w]
          rfl
        refine take_ (i := 13) (N := some 19) (v := ?_) (a' := ?_) #[true, true, true, true, true, true, true, true, true, true, true, true, true, true, true, true, false, false, false] rfl rfl (by kernel_rfl) (fun _ _ _ h => h) (Or.inl ⟨by rfl, ?_⟩) hHeld ?_ ?_
        rotate_left
        · rintro w' ⟨s0, s1⟩
          go_simp
          with_reducible rfl
        rotate_left
        · simp only [Act.put, List.setIfInBounds_toArray, List.set_cons_zero, List.set_cons_succ, i64_w, i32_w]
          rfl
        exact norm_ (by simp only [putAll, Act.put, List.setIfInBounds_toArray, List.set_cons_zero, List.set_cons_succ]) (hCont () _ rfl)
    · skip
      refine value_ (w1 := ?_) (v := ?_) (by rfl) rfl ?_ ?_
      rotate_left 2
      · go_simp
        constructor
        · rfl
        · rfl
      refine hK.out _ _ ⟨cell_later (below_alloc (Below.refl _ _) _) hHeld.1, cell_later (below_alloc (Below.refl _ _) _) hHeld.2⟩ (fun hHeld => ?_)
      clear hK K
      refine norm_ (a' := ?_) ?_ ?_
      rotate_left
      · show Act.put _ (some 21) _ = _
        simp only [Act.put, List.setIfInBounds_toArray, List.set_cons_zero, List.set_cons_succ, i64_w, i32_w]
        rfl
      refine one_ (i := 5) (N := some 11) #[true, true, true, true, true, true, true, true, true, true, true, false, false, false, true, true, false, false, false] rfl rfl (by kernel_rfl) (by decide) (fun K hK => ?_)
      refine goes_ Try.func41 (by kernel_rfl) rfl #[.int .i64 v] (by rfl) rfl rfl (by simp only [List.map_toArray, List.map_cons, List.map_nil]; rfl) ?_
      with_reducible refine (HA.out _).mono ?_
      rintro e w' ⟨rfl, rfl⟩
      refine ⟨_, rfl, ?_⟩
      refine hK.out _ _ ⟨hHeld.1, hHeld.2⟩ (fun hHeld => ?_)
      clear hK K
      refine norm_ (a' := ?_) ?_ ?_
      rotate_left
      · show Act.put _ (some 11) _ = _
        simp only [Act.put, List.setIfInBounds_toArray, List.set_cons_zero, List.set_cons_succ, i64_w, i32_w]
        rfl
      refine one_ (i := 11) (N := some 17) #[true, true, true, true, true, true, true, true, true, true, true, true, false, false, true, true, false, false, false] rfl rfl (by kernel_rfl) (by decide) (fun K hK => ?_)
      refine goes_ Try.func41 (by kernel_rfl) rfl #[.int .i64 v] (by rfl) rfl rfl (by simp only [List.map_toArray, List.map_cons, List.map_nil]; rfl) ?_
      with_reducible refine (HA.out _).mono ?_
      rintro e w' ⟨rfl, rfl⟩
      refine ⟨_, rfl, ?_⟩
      refine hK.out _ _ ⟨hHeld.1, hHeld.2⟩ (fun hHeld => ?_)
      clear hK K
      refine norm_ (a' := ?_) ?_ ?_
      rotate_left
      · show Act.put _ (some 17) _ = _
        simp only [Act.put, List.setIfInBounds_toArray, List.set_cons_zero, List.set_cons_succ, i64_w, i32_w]
        rfl
      refine pure_ (i := 12) (N := some 18) (v := ?_) (a' := ?_) #[true, true, true, true, true, true, true, true, true, true, true, true, true, false, true, true, false, false, false] rfl rfl (by kernel_rfl) (fun _ _ _ h => h) (Or.inl ⟨by rfl, ?_⟩) ?_ ?_
      rotate_left
      · intro w'
        go_simp
        with_reducible rfl
      rotate_left
      · simp only [Act.put, List.setIfInBounds_toArray, List.set_cons_zero, List.set_cons_succ, i64_w, i32_w]
        rfl
      refine take_ (i := 13) (N := some 19) (v := ?_) (a' := ?_) #[true, true, true, true, true, true, true, true, true, true, true, true, true, true, true, true, false, false, false] rfl rfl (by kernel_rfl) (fun _ _ _ h => h) (Or.inl ⟨by rfl, ?_⟩) hHeld ?_ ?_
      rotate_left
      · rintro w' ⟨s0, s1⟩
        go_simp
        with_reducible rfl
      rotate_left
      · simp only [Act.put, List.setIfInBounds_toArray, List.set_cons_zero, List.set_cons_succ, i64_w, i32_w]
        rfl
      exact norm_ (by simp only [putAll, Act.put, List.setIfInBounds_toArray, List.set_cons_zero, List.set_cons_succ]) (hCont () _ rfl)
  rintro _ w' rfl
  have hHeld := And.intro (cell_later (below_alloc (Below.refl _ _) (.cells #[.int .i64 (i : Int)] 3)) hHeld.1) (cell_later (below_alloc (Below.refl _ _) (.cells #[.int .i64 (i : Int)] 3)) hHeld.2)
  refine norm_ (a' := ?_) ?_ ?_
  rotate_left
  · simp only [putAll, Act.put, List.setIfInBounds_toArray, List.set_cons_zero, List.set_cons_succ]
    rfl
  refine one_ (i := 16) (N := some 22) #[true, true, true, true, true, true, true, true, true, true, true, true, true, true, true, true, true, false, false] rfl rfl (by kernel_rfl) (by decide) (fun K hK => ?_)
  refine or_append_step (W := w.drew) (by rfl) (.tmp 19) (.tmp 21) rfl Try.underlying37 P.info3 rfl (by decide) (ow := ow) (r := .li k) (.slice A n c) L (i : Int) ?aS ?aX HO3.out HL2.out R3.out.top ?_
  case aS => simp [Act.eval, Act.put]
  case aX => simp [Act.eval, Act.put]
  intro v4 w4 ow4 t4 g4
  have T4 := Aside0.mk t4
  have G4 := Aside0.mk g4
  obtain ⟨⟨z1, z2⟩, z3⟩ := HG.out _ _ g4
  obtain ⟨A4, c4, rfl⟩ := Kd.R_slice t4
  rw [List.length_append, List.length_singleton] at T4
  clear t4 g4
  refine hK.out _ _ ⟨z1, z2⟩ (fun hHeld => ?_)
  clear hK K
  refine norm_ (a' := ?_) ?_ ?_
  rotate_left
  · show Act.put _ (some 22) _ = _
    simp only [Act.put, List.setIfInBounds_toArray, List.set_cons_zero, List.set_cons_succ, i64_w, i32_w]
    rfl
  refine pure_ (i := 17) (N := some 23) (v := ?_) (a' := ?_) #[true, true, true, true, true, true, true, true, true, true, true, true, true, true, true, true, true, true, false] rfl rfl (by kernel_rfl) (fun _ _ _ h => h) (Or.inl ⟨by rfl, ?_⟩) ?_ ?_
  rotate_left
  · intro w'
    go_simp
    with_reducible rfl
  rotate_left
  · simp only [Act.put, List.setIfInBounds_toArray, List.set_cons_zero, List.set_cons_succ, i64_w, i32_w]
    rfl
  refine last_ (i := 18) (N := none) #[true, true, true, true, true, true, true, true, true, true, true, true, true, true, true, true, true, true, true] rfl rfl (by kernel_rfl) (by decide) (fun K hK => ?_)
  refine skip_ (w1 := ?_) (by rfl) rfl ?_ ?_
  rotate_left
  · go_simp
    rfl
  refine hK.out _ _ ?_
  clear hK K
  refine done_ (by kernel_rfl) ?_

  all_goals
    go_end0
    have T5 := T4.out
    rw [← HLI.out] at T5
    have R5 := R3.out.newLi (s2 := ⟨A4, L.length + 1, c4⟩) G4.out T5 rfl
    have ho : ow4 gi = some .inn := (G4.out.own gi hgi).trans HS.out.2
    exact ⟨rfl, _, _, ((Fr.of_below (bd_drew w)).trans G4.out.fr).trans (Chg.set ho k _).fr, R5⟩
end Go.Proofs.Ytnhpfdnhnocgjaa.S
