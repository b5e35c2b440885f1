/- Joined by a program of this session out of: HpE, HpF. -/
import Derived.Test.YtnhpfdnhnocgjaaHpD
/- other: walked over the relation. -/
namespace Go.Proofs.Ytnhpfdnhnocgjaa.S
open Go.RowKit Go.Proofs.Ytnhpfdnhnocgjaa.D Go.Proofs.YtnhpfdnhnocgjaaW.PrintWords Go.Proofs.YtnhpfdnhnocgjaaW.PrintLast Go.Proofs.YtnhpfdnhnocgjaaW.PrintMore
set_option linter.unusedVariables false
set_option linter.unusedSimpArgs false
/-- All literals from the third on have failed. -/
def Failed (st : St) (c : List Int) (k : Nat) : Prop := ∀ (j : Nat) (x : Int), 2 ≤ j → j < k → c[j]? = some x → st.known x = true ∧ st.on x = false
def OtherP (w : World) (ow : Nat → Option Role) (B : Nat) (st : St) (vf vi vv vs vt : Value) (fs is : List SL) (i : Nat) (c : List Int) (e : Ending) (w' : World) : Prop :=
  (e = .returned (.bool false) ∧ Failed st c c.length ∧ Below w.heap.size w w') ∨
  (∃ (j : Nat) (x : Int), e = .returned (.bool true) ∧ 2 ≤ j ∧ c[j]? = some x ∧ (st.on x = true ∨ st.known x = false) ∧ Chg ow ow w w' (.cl i) ∧ Rp w' ow B { st with f := st.f.set i (sw c 1 j) } vf vi vv vs vt fs is)
theorem Failed.step {st : St} {c : List Int} {k : Nat} (h : Failed st c k) (hk : 2 ≤ k) {x : Int} (hx : c[k]? = some x) (h1 : st.known x = true) (h2 : st.on x = false) : Failed st c (k + 1) := by
  intro j y hj hjk hy
  by_cases e : j = k
  · subst e
    rw [hx] at hy
    injection hy with hy
    subst hy
    exact ⟨h1, h2⟩
  · exact h j y hj (by omega) hy
/-- A clause's two literals changed about. -/
theorem Rp.swap {w : World} {ow : Nat → Option Role} {B : Nat} {st : St} {vf vi vv vs vt : Value} {fs is : List SL} (h : Rp w ow B st vf vi vv vs vt fs is) {i : Nat} {s : SL} {c : List Int} (hs : fs[i]? = some s) (hc : st.f[i]? = some c) {g n cap : Nat} (hv : s.v = .slice (some ⟨g, 0, none⟩) n cap) (a b : Nat) :
    Chg ow ow w ((w.setCell ⟨g, a, none⟩ (.int .i64 (c.getD b 0))).setCell ⟨g, b, none⟩ (.int .i64 (c.getD a 0))) (.cl i) ∧ Rp ((w.setCell ⟨g, a, none⟩ (.int .i64 (c.getD b 0))).setCell ⟨g, b, none⟩ (.int .i64 (c.getD a 0))) ow B { st with f := st.f.set i (sw c a b) } vf vi vv vs vt fs is := by
  have hO := h.fc i s c hs hc
  have ho : ow g = some (.cl i) := hO.block (by rw [hv]; rfl)
  have c1 : Chg ow ow w (w.setCell ⟨g, a, none⟩ (.int .i64 (c.getD b 0))) (.cl i) := Chg.set ho a _
  have c2 : Chg ow ow (w.setCell ⟨g, a, none⟩ (.int .i64 (c.getD b 0))) ((w.setCell ⟨g, a, none⟩ (.int .i64 (c.getD b 0))).setCell ⟨g, b, none⟩ (.int .i64 (c.getD a 0))) (.cl i) := Chg.set ho b _
  rw [hv] at hO
  have hO1 : OR (Kd.int .i64) 3 (w.setCell ⟨g, a, none⟩ (.int .i64 (c.getD b 0))) ow (.cl i) (.slice (some ⟨g, 0, none⟩) n cap) (c.set a (c.getD b 0)) := OR.put hO a _
  have hO2 : OR (Kd.int .i64) 3 ((w.setCell ⟨g, a, none⟩ (.int .i64 (c.getD b 0))).setCell ⟨g, b, none⟩ (.int .i64 (c.getD a 0))) ow (.cl i) (.slice (some ⟨g, 0, none⟩) n cap) (sw c a b) := OR.put hO1 b _
  exact ⟨c1.trans c2, h.newCl (c1.trans c2) hs (by rw [hv]; exact hO2)⟩
set_option maxRecDepth 100000 in
set_option maxHeartbeats 4000000 in
theorem other47 {w : World} {ow : Nat → Option Role} {B : Nat} {st : St} {vf vi vv vs vt : Value} {fs is : List SL} (h : Rp w ow B st vf vi vv vs vt fs is) (hT : Tr st) (hn : st.n ≤ 65536) {i : Nat} {s : SL} {c : List Int} (hs : fs[i]? = some s) (hc : st.f[i]? = some c) (hcl : Cl st.n c) :
    Calls Try.prog 47 #[.pointer (some ⟨B, 0, none⟩), s.v] w (OtherP w ow B st vf vi vv vs vt fs is i c) := by
  have h2 := hcl.two
  have hlen : c.length ≤ 65536 := by have := hcl.len; omega
  obtain ⟨g, cap, hv, ho, hgl, hcell⟩ := (h.fc i s c hs hc).intCell (by omega)
  have H := Aside0.mk h
  have HT := Aside0.mk (And.intro hT (And.intro hn (And.intro hcl (And.intro hs (And.intro hc hv)))))
  have HC := Aside0.mk hcell
  rw [hv]
  obtain ⟨n, hcn⟩ : ∃ n, c.length = n := ⟨_, rfl⟩
  have HN := Aside0.mk hcn
  rw [hcn] at h2 hlen ⊢
  clear h hT hn hcl hs hc hv hcell hcn ho
  go_enter Try.func47, Try.ntmps47
  go_wp2
  go_loopw [5] (fun v5 wr => ∃ j : Nat, v5 = .int .i64 (j : Int) ∧ 2 ≤ j ∧ j ≤ n ∧ Aside0 (Below w.heap.size w wr ∧ Failed st c j)) (fun v5 _ => n - (intOf v5).toNat)
  case atStart => exact ⟨2, rfl, Nat.le_refl _, h2, ⟨Below.refl _ _, fun j x h1 h2 _ => by omega⟩⟩
  case round =>
    obtain ⟨j, rfl, hj2, hjn, HR⟩ := hrel
    by_cases hj : j < n
    · have hjc : j < c.length := by rw [HN.out]; exact hj
      obtain ⟨x, hx⟩ : ∃ x, c[j]? = some x := ⟨_, List.getElem?_eq_getElem hjc⟩
      have hxo : okL st.n x := HT.out.2.2.1.ok x (List.mem_of_getElem? hx)
      have x1 : wr.cell? ⟨g, j, none⟩ = some (.int .i64 x) := by
        have := cell_later HR.out.1 (HC.out j hjc).1
        rwa [getD_of hx] at this
      have HI := Aside0.mk (is40 (w := wr) ⟨_, _, _, _, _, _, _, H.out.below HR.out.1⟩ HT.out.1 HT.out.2.1 hxo)
      have HX := Aside0.mk hx
      obtain ⟨on, hon⟩ : ∃ b, st.on x = b := ⟨_, rfl⟩
      obtain ⟨kn, hkn⟩ : ∃ b, st.known x = b := ⟨_, rfl⟩
      rw [hon, hkn] at HI
      have HB := Aside0.mk (And.intro hon hkn)
      have q1 : decide ((j : Int) < (n : Int)) = true := decide_eq_true (by omega)
      have q2 : decide (j < n) = true := decide_eq_true hj
      have q3 : (0 : Int) ≤ (j : Int) := by omega
      have q4 : (j : Int) < (n : Int) := by omega
      clear hon hkn hx hxo hjc
      cases on <;> cases kn
      all_goals
        go_wp2_with (go_at_call 40; refine HI.out.mono ?_; rintro e w1 ⟨rfl, hd⟩; have HD := Aside0.mk hd; clear hd)
      · have hy : ∃ y, c[1]? = some y := ⟨_, List.getElem?_eq_getElem (by rw [HN.out]; omega)⟩
        obtain ⟨y, hy⟩ := hy
        have hb1 : Below w.heap.size w w1 := HR.out.1.trans ((HD.out.below).mono HR.out.1.size)
        have z1 : w1.cell? ⟨g, j, none⟩ = some (.int .i64 x) := by
          have := cell_later hb1 (HC.out j (by rw [HN.out]; exact hj)).1
          rwa [getD_of HX.out] at this
        have z2 : w1.cell? ⟨g, 1, none⟩ = some (.int .i64 y) := by
          have := cell_later hb1 (HC.out 1 (by rw [HN.out]; omega)).1
          rwa [getD_of hy] at this
        have hr1 := H.out.below hb1
        obtain ⟨g', cap', hv', _, _, hcell'⟩ := (hr1.fc i s c HT.out.2.2.2.1 HT.out.2.2.2.2.1).intCell (by rw [HN.out]; omega)
        have hgg : g = g' := by
          have := HT.out.2.2.2.2.2.symm.trans hv'
          injection this with ha _ _
          injection ha with ha
          injection ha
        subst hgg
        have f1 := (hcell' j (by rw [HN.out]; exact hj)).2
        have f2 := (hcell' 1 (by rw [HN.out]; omega)).2
        have sw1 := hr1.swap HT.out.2.2.2.1 HT.out.2.2.2.2.1 HT.out.2.2.2.2.2 1 j
        rw [getD_of HX.out, getD_of hy] at sw1
        have SW := Aside0.mk sw1
        have HB1 := Aside0.mk hb1
        have n1 : j ≠ 1 := by omega
        have n2 : 1 ≠ j := by omega
        have q5 : (1 : Int) < (n : Int) := by omega
        have q6 : 1 < n := by omega
        clear sw1 hcell' hv' hr1 hb1 x1 hy
        go_region
        all_goals go_wp2
        all_goals
          go_ret
          refine .inr ⟨j, x, rfl, hj2, HX.out, by rw [HB.out.1, HB.out.2]; simp, ?_, ?_⟩
          · exact ((Chg.of_below HB1.out).trans SW.out.1).trans (Chg.of_below (bd_drew _))
          · exact SW.out.2.below (bd_drew _)
      · exact ⟨⟨j + 1, by simp [intOf], by omega, by omega, ⟨HR.out.1.trans ((HD.out.below).mono HR.out.1.size), HR.out.2.step hj2 HX.out HB.out.2 HB.out.1⟩⟩, by simp [intOf]; omega⟩
      · have hy : ∃ y, c[1]? = some y := ⟨_, List.getElem?_eq_getElem (by rw [HN.out]; omega)⟩
        obtain ⟨y, hy⟩ := hy
        have hb1 : Below w.heap.size w w1 := HR.out.1.trans ((HD.out.below).mono HR.out.1.size)
        have z1 : w1.cell? ⟨g, j, none⟩ = some (.int .i64 x) := by
          have := cell_later hb1 (HC.out j (by rw [HN.out]; exact hj)).1
          rwa [getD_of HX.out] at this
        have z2 : w1.cell? ⟨g, 1, none⟩ = some (.int .i64 y) := by
          have := cell_later hb1 (HC.out 1 (by rw [HN.out]; omega)).1
          rwa [getD_of hy] at this
        have hr1 := H.out.below hb1
        obtain ⟨g', cap', hv', _, _, hcell'⟩ := (hr1.fc i s c HT.out.2.2.2.1 HT.out.2.2.2.2.1).intCell (by rw [HN.out]; omega)
        have hgg : g = g' := by
          have := HT.out.2.2.2.2.2.symm.trans hv'
          injection this with ha _ _
          injection ha with ha
          injection ha
        subst hgg
        have f1 := (hcell' j (by rw [HN.out]; exact hj)).2
        have f2 := (hcell' 1 (by rw [HN.out]; omega)).2
        have sw1 := hr1.swap HT.out.2.2.2.1 HT.out.2.2.2.2.1 HT.out.2.2.2.2.2 1 j
        rw [getD_of HX.out, getD_of hy] at sw1
        have SW := Aside0.mk sw1
        have HB1 := Aside0.mk hb1
        have n1 : j ≠ 1 := by omega
        have n2 : 1 ≠ j := by omega
        have q5 : (1 : Int) < (n : Int) := by omega
        have q6 : 1 < n := by omega
        clear sw1 hcell' hv' hr1 hb1 x1 hy
        go_region
        all_goals go_wp2
        all_goals
          go_ret
          refine .inr ⟨j, x, rfl, hj2, HX.out, by rw [HB.out.1, HB.out.2]; simp, ?_, ?_⟩
          · exact ((Chg.of_below HB1.out).trans SW.out.1).trans (Chg.of_below (bd_drew _))
          · exact SW.out.2.below (bd_drew _)
      · have hy : ∃ y, c[1]? = some y := ⟨_, List.getElem?_eq_getElem (by rw [HN.out]; omega)⟩
        obtain ⟨y, hy⟩ := hy
        have hb1 : Below w.heap.size w w1 := HR.out.1.trans ((HD.out.below).mono HR.out.1.size)
        have z1 : w1.cell? ⟨g, j, none⟩ = some (.int .i64 x) := by
          have := cell_later hb1 (HC.out j (by rw [HN.out]; exact hj)).1
          rwa [getD_of HX.out] at this
        have z2 : w1.cell? ⟨g, 1, none⟩ = some (.int .i64 y) := by
          have := cell_later hb1 (HC.out 1 (by rw [HN.out]; omega)).1
          rwa [getD_of hy] at this
        have hr1 := H.out.below hb1
        obtain ⟨g', cap', hv', _, _, hcell'⟩ := (hr1.fc i s c HT.out.2.2.2.1 HT.out.2.2.2.2.1).intCell (by rw [HN.out]; omega)
        have hgg : g = g' := by
          have := HT.out.2.2.2.2.2.symm.trans hv'
          injection this with ha _ _
          injection ha with ha
          injection ha
        subst hgg
        have f1 := (hcell' j (by rw [HN.out]; exact hj)).2
        have f2 := (hcell' 1 (by rw [HN.out]; omega)).2
        have sw1 := hr1.swap HT.out.2.2.2.1 HT.out.2.2.2.2.1 HT.out.2.2.2.2.2 1 j
        rw [getD_of HX.out, getD_of hy] at sw1
        have SW := Aside0.mk sw1
        have HB1 := Aside0.mk hb1
        have n1 : j ≠ 1 := by omega
        have n2 : 1 ≠ j := by omega
        have q5 : (1 : Int) < (n : Int) := by omega
        have q6 : 1 < n := by omega
        clear sw1 hcell' hv' hr1 hb1 x1 hy
        go_region
        all_goals go_wp2
        all_goals
          go_ret
          refine .inr ⟨j, x, rfl, hj2, HX.out, by rw [HB.out.1, HB.out.2]; simp, ?_, ?_⟩
          · exact ((Chg.of_below HB1.out).trans SW.out.1).trans (Chg.of_below (bd_drew _))
          · exact SW.out.2.below (bd_drew _)
    · have ej : j = n := by omega
      subst ej
      go_wp2
      go_ret
      exact .inl ⟨rfl, by rw [HN.out]; exact HR.out.2, HR.out.1⟩
end Go.Proofs.Ytnhpfdnhnocgjaa.S
/- fail, what holds in its loop: over the relation, no walk. -/
namespace Go.Proofs.Ytnhpfdnhnocgjaa.S
open Go.RowKit Go.Proofs.Ytnhpfdnhnocgjaa.D Go.Proofs.YtnhpfdnhnocgjaaW.PrintWords Go.Proofs.YtnhpfdnhnocgjaaW.PrintLast Go.Proofs.YtnhpfdnhnocgjaaW.PrintMore
set_option linter.unusedVariables false
set_option linter.unusedSimpArgs false
section
variable {ops : Array Oper} {rest : List Oper} {o : Oper} {a : Act} {Q : Exit → Act → World → Prop}
/-- append of one number where there is room. -/
theorem app_room (hgd : o.guard = none) (s x : Operand) (ho : o.op = .call { callee := .builtin .append, args := #[s, x], argTypes := #[37, 37] })
    {W : World} (g k cap : Nat) (i : Int) (hs : a.eval s = .slice (some ⟨g, 0, none⟩) k cap) (hx : a.eval x = .slice (some ⟨W.heap.size, 0, none⟩) 1 1) (hroom : k + 1 ≤ cap) {u : Value} (hc : W.cell? ⟨g, k, none⟩ = some u) (hf : W.frozen? ⟨g, k, none⟩ = false)
    (h : wpList Try.prog ops Q rest (a.put o.dst (.slice (some ⟨g, 0, none⟩) (k + 1) cap)) ((W.alloc (.cells #[.int .i64 i] 3)).setCell ⟨g, k, none⟩ (.int .i64 i))) :
    wpList Try.prog ops Q (o :: rest) a (W.alloc (.cells #[.int .i64 i] 3)) := by
  obtain ⟨i0, hi, hz0, hz1, hz2⟩ := info_parts P.info3
  have hg : g < W.heap.size := World.block_lt_of_cell? _ _ hc
  have hc' : (W.alloc (.cells #[.int .i64 i] 3)).cell? ⟨g, k, none⟩ = some u := cell_later (below_alloc (Below.refl _ _) _) hc
  have hf' : (W.alloc (.cells #[.int .i64 i] 3)).frozen? ⟨g, k, none⟩ = false := by
    have := (below_alloc (Below.refl W.heap.size W) (.cells #[.int .i64 i] 3)).frozen (p := ⟨g, k, none⟩) hg
    rw [this]; exact hf
  have hnew : (W.alloc (.cells #[.int .i64 i] 3)).cell? ((⟨W.heap.size, 0, none⟩ : Addr).add 0) = some (.int .i64 i) := by
    rw [add_plain]
    have := blk_new W (.cells #[.int .i64 i] 3)
    rw [blk_cell this]; rfl
  refine wpList_plain hgd fun K hK' => ?_
  have hrun := run_append_room_cells (P := Try.prog) (W.alloc (.cells #[.int .i64 i] 3)) 37 o.type 3 i0 Try.underlying37 hi g 0 k cap ⟨W.heap.size, 0, none⟩ 1 1 [.int .i64 i] (by rw [hz1]; rfl)
    (fun j v hj => by
      cases j with
      | zero =>
        have : Value.int .i64 i = v := by simpa using hj
        rw [← this]; exact hnew
      | succ j => simp at hj)
    (fun v hv => by rw [List.mem_singleton.1 hv]; rfl) hroom
    (fun j hj => by
      have : j = 0 := by simpa using hj
      subst this
      rw [hz1, Nat.mul_one, Nat.zero_add, Nat.add_zero, hc']; rfl)
    (fun j hj => by
      have : j = 0 := by simpa using hj
      subst this
      rw [hz1, Nat.mul_one, Nat.zero_add, Nat.add_zero]; exact hf')
  have hset : ∀ w : World, w.setCells g (0 + k * i0.size) [.int .i64 i] = w.setCell ⟨g, k, none⟩ (.int .i64 i) := by
    intro w
    rw [hz1, Nat.mul_one, Nat.zero_add]; rfl
  rw [hset] at hrun
  unfold Oper.wp
  simp [execOp, ho, resolve, invoke, builtin, hs, hx, hrun, Result.andThen]
  exact hK' _ _ h
end
/-- A row of the watches, changed in its place. -/
theorem Rp.liPut {w : World} {ow : Nat → Option Role} {B : Nat} {st : St} {vf vi vv vs vt : Value} {fs is : List SL} (h : Rp w ow B st vf vi vv vs vt fs is) {k : Nat} {s : SL} {l : List Nat} (hs : is[k]? = some s) (hl : st.inn[k]? = some l) {g n cap : Nat} (hv : s.v = .slice (some ⟨g, 0, none⟩) n cap) (j x : Nat) :
    Chg ow ow w (w.setCell ⟨g, j, none⟩ (.int .i64 (x : Int))) (.li k) ∧ Rp (w.setCell ⟨g, j, none⟩ (.int .i64 (x : Int))) ow B { st with inn := st.inn.set k (l.set j x) } vf vi vv vs vt fs is := by
  have hO := h.ic k s l hs hl
  have ho : ow g = some (.li k) := hO.block (by rw [hv]; rfl)
  have hc : Chg ow ow w (w.setCell ⟨g, j, none⟩ (.int .i64 (x : Int))) (.li k) := Chg.set ho j _
  rw [hv] at hO
  have hO1 : OR (Kd.int .i64) 3 (w.setCell ⟨g, j, none⟩ (.int .i64 (x : Int))) ow (.li k) (.slice (some ⟨g, 0, none⟩) n cap) ((ints l).set j (x : Int)) := OR.put hO j _
  have e : (ints l).set j (x : Int) = ints (l.set j x) := by unfold ints; rw [List.map_set]
  rw [e] at hO1
  have hb := box_chg h.box h.bo hc (by simp)
  refine ⟨hc, hb.1, hb.2, h.f.chg hc (by simp), h.i.chg hc (by simp), h.v.chg hc (by simp), h.s.chg hc (by simp), h.t.chg hc (by simp), h.fl, fun j' s' c' a b => (h.fc j' s' c' a b).chg hc (by simp), by show is.length = (st.inn.set k _).length; rw [List.length_set]; exact h.il, fun j' s' l' a b => ?_, hc.top h.top⟩
  have b : (st.inn.set k (l.set j x))[j']? = some l' := b
  by_cases e' : k = j'
  · subst e'
    rw [hs] at a
    rw [List.getElem?_set_self (lt_of hl)] at b
    injection a with a
    injection b with b
    rw [← a, ← b, hv]
    exact hO1
  · rw [List.getElem?_set_ne e'] at b
    exact (h.ic j' s' l' a b).chg hc (by simp [Ne.symm e'])
theorem Rp.clCell {w : World} {ow : Nat → Option Role} {B : Nat} {st : St} {vf vi vv vs vt : Value} {fs is : List SL} (h : Rp w ow B st vf vi vv vs vt fs is) {i : Nat} {s : SL} {cl : List Int} (hs : fs[i]? = some s) (hc : st.f[i]? = some cl) {g n cap : Nat} (hv : s.v = .slice (some ⟨g, 0, none⟩) n cap) {j : Nat} {x : Int} (hx : cl[j]? = some x) :
    w.cell? ⟨g, j, none⟩ = some (.int .i64 x) ∧ w.frozen? ⟨g, j, none⟩ = false := by
  obtain ⟨g', cap', hv', _, _, hcell⟩ := (h.fc i s cl hs hc).intCell (by have := lt_of hx; omega)
  have hgg : g = g' := by
    have := hv.symm.trans hv'
    injection this with ha _ _
    injection ha with ha
    injection ha
  subst hgg
  have := hcell j (lt_of hx)
  rwa [getD_of hx] at this
theorem Rp.liCell {w : World} {ow : Nat → Option Role} {B : Nat} {st : St} {vf vi vv vs vt : Value} {fs is : List SL} (h : Rp w ow B st vf vi vv vs vt fs is) {k : Nat} {s : SL} {l : List Nat} (hs : is[k]? = some s) (hc : st.inn[k]? = some l) {g n cap : Nat} (hv : s.v = .slice (some ⟨g, 0, none⟩) n cap) {j x : Nat} (hx : l[j]? = some x) :
    w.cell? ⟨g, j, none⟩ = some (.int .i64 (x : Int)) ∧ w.frozen? ⟨g, j, none⟩ = false := by
  have hj : j < (ints l).length := by rw [ints_length]; exact lt_of hx
  obtain ⟨g', cap', hv', _, _, hcell⟩ := (h.ic k s l hs hc).intCell (by omega)
  have hgg : g = g' := by
    have := hv.symm.trans hv'
    injection this with ha _ _
    injection ha with ha
    injection ha
  subst hgg
  have := hcell j hj
  have e : (ints l).getD j 0 = (x : Int) := by
    rw [List.getD_eq_getElem?_getD]
    unfold ints
    rw [List.getElem?_map, hx]; rfl
  rwa [e] at this
/-- The loop's invariant, all letters told. -/
structure LF (w0 : World) (ow0 : Nat → Option Role) (B : Nat) (st0 : St) (v : Int) (A : Option Addr) (n c p kk : Nat) (well : Bool) (wr : World) (st : St) (kept rest M : List Nat) (ow : Nat → Option Role) (vf vi vv vs vt : Value) (fs is : List SL) : Prop where
  fi : FI st0 v st kept rest well
  k1 : kk = kept.length
  k2 : kk ≤ p
  pn : p ≤ n
  ml : M.length = n
  mt : M.take kk = kept
  md : M.drop p = rest
  rp : Rp wr ow B { st with inn := st.inn.set (pl v) M } vf vi vv vs vt fs is
  ia : is[pl v]? = some ⟨A, n, c⟩
  fr : Fr ow0 ow w0 wr
def LoopF (w0 : World) (ow0 : Nat → Option Role) (B : Nat) (st0 : St) (v : Int) (A : Option Addr) (n c p kk : Nat) (well : Bool) (wr : World) : Prop :=
  ∃ st kept rest M ow vf vi vv vs vt fs is, LF w0 ow0 B st0 v A n c p kk well wr st kept rest M ow vf vi vv vs vt fs is
/-- In the midst of a round: the clause i has v in its second place. -/
structure MF (w0 : World) (ow0 : Nat → Option Role) (B : Nat) (st0 : St) (v : Int) (A : Option Addr) (n c p kk : Nat) (well : Bool) (wr : World) (st : St) (kept rest M : List Nat) (ow : Nat → Option Role) (vf vi vv vs vt : Value) (fs is : List SL) (i : Nat) (s : SL) (cl : List Int) (a : Int) : Prop where
  fi : FI st0 v st kept (i :: rest) well
  k1 : kk = kept.length
  k2 : kk ≤ p
  pn : p < n
  ml : M.length = n
  mt : M.take kk = kept
  md : M.drop (p + 1) = rest
  rp : Rp wr ow B { st with inn := st.inn.set (pl v) M } vf vi vv vs vt fs is
  ia : is[pl v]? = some ⟨A, n, c⟩
  fr : Fr ow0 ow w0 wr
  hc : st.f[i]? = some cl
  h0 : cl[0]? = some a
  h1 : cl[1]? = some v
  hs : fs[i]? = some s
section
variable {w0 wr : World} {ow0 ow : Nat → Option Role} {B : Nat} {st0 st : St} {v : Int} {A : Option Addr} {n c p kk : Nat} {well : Bool} {kept rest M : List Nat} {vf vi vv vs vt : Value} {fs is : List SL} {i : Nat} {s : SL} {cl : List Int} {a : Int}
theorem FI.bd (h : FI st0 v st kept rest well) (hb : Bd st0) : Bd st := ⟨by rw [h.n]; exact hb.n, by rw [← h.pf.1]; exact hb.m⟩
theorem LF.start (h : Rp wr ow B st0 vf vi vv vs vt fs is) (hT : Tr st0) (hW : Wa st0) (hv : okL st0.n v) (hs : is[pl v]? = some ⟨A, n, c⟩) (hn : (st0.row v).length = n) : LF wr ow B st0 v A n c 0 0 true wr st0 [] (st0.row v) (st0.row v) ow vf vi vv vs vt fs is := by
  refine ⟨FI.start v hv hT hW, rfl, Nat.le_refl _, Nat.zero_le _, hn, rfl, rfl, ?_, hs, Fr.refl _ _⟩
  have hl : pl v < st0.inn.length := by rw [hW.hi]; exact pl_lt hv
  have e : st0.inn.set (pl v) (st0.row v) = st0.inn := by
    apply List.ext_getElem?
    intro j
    by_cases hj : pl v = j
    · subst hj
      rw [List.getElem?_set_self hl]
      unfold St.row
      rw [List.getD_eq_getElem?_getD, List.getElem?_eq_getElem hl]; rfl
    · rw [List.getElem?_set_ne hj]
  rw [e]
  exact h
theorem LF.innAt (h : LF w0 ow0 B st0 v A n c p kk well wr st kept rest M ow vf vi vv vs vt fs is) (hv : okL st0.n v) : (st.inn.set (pl v) M)[pl v]? = some M :=
  List.getElem?_set_self (by rw [h.fi.wa.hi, h.fi.n]; exact pl_lt hv)
theorem MF.innAt (h : MF w0 ow0 B st0 v A n c p kk well wr st kept rest M ow vf vi vv vs vt fs is i s cl a) (hv : okL st0.n v) : (st.inn.set (pl v) M)[pl v]? = some M :=
  List.getElem?_set_self (by rw [h.fi.wa.hi, h.fi.n]; exact pl_lt hv)
theorem LF.restAt (h : LF w0 ow0 B st0 v A n c p kk well wr st kept rest M ow vf vi vv vs vt fs is) (hp : p < n) : ∃ i, M[p]? = some i ∧ rest = i :: M.drop (p + 1) := by
  have hl : p < M.length := by rw [h.ml]; exact hp
  exact ⟨M[p], List.getElem?_eq_getElem hl, by rw [← h.md, List.drop_eq_getElem_cons hl]⟩
/-- The clause stands as it should. -/
theorem LF.mid (h : LF w0 ow0 B st0 v A n c p kk well wr st kept (i :: rest) M ow vf vi vv vs vt fs is) (hp : p < n) (hd : M.drop (p + 1) = rest) (hc : st.f[i]? = some cl) (h0 : cl[0]? = some a) (h1 : cl[1]? = some v) (hs : fs[i]? = some s) : MF w0 ow0 B st0 v A n c p kk well wr st kept rest M ow vf vi vv vs vt fs is i s cl a :=
  ⟨h.fi, h.k1, h.k2, hp, h.ml, h.mt, hd, h.rp, h.ia, h.fr, hc, h0, h1, hs⟩
/-- It stood the other way round. -/
theorem LF.midSwap (h : LF w0 ow0 B st0 v A n c p kk well wr st kept (i :: rest) M ow vf vi vv vs vt fs is) (hp : p < n) (hd : M.drop (p + 1) = rest) (hc : st.f[i]? = some cl) (h0 : cl[0]? = some v) (h1 : cl[1]? = some a) (hs : fs[i]? = some s) {w1 : World} (hch : Chg ow ow wr w1 (.cl i)) (hr : Rp w1 ow B { { st with inn := st.inn.set (pl v) M } with f := st.f.set i (sw cl 0 1) } vf vi vv vs vt fs is) :
    MF w0 ow0 B st0 v A n c p kk well w1 { st with f := st.f.set i (sw cl 0 1) } kept rest M ow vf vi vv vs vt fs is i s (sw cl 0 1) a :=
  ⟨h.fi.swap hc h0, h.k1, h.k2, hp, h.ml, h.mt, hd, hr, h.ia, h.fr.trans hch.fr, List.getElem?_set_self (lt_of hc), sw_left (by omega) (lt_of h0) h1, sw_right h0 (lt_of h1), hs⟩
theorem MF.below (h : MF w0 ow0 B st0 v A n c p kk well wr st kept rest M ow vf vi vv vs vt fs is i s cl a) {w1 : World} (hb : Below wr.heap.size wr w1) : MF w0 ow0 B st0 v A n c p kk well w1 st kept rest M ow vf vi vv vs vt fs is i s cl a :=
  ⟨h.fi, h.k1, h.k2, h.pn, h.ml, h.mt, h.md, h.rp.below hb, h.ia, h.fr.trans (Fr.of_below hb), h.hc, h.h0, h.h1, h.hs⟩
theorem tr_inn (h : Tr st) (l : List (List Nat)) : Tr { st with inn := l } := ⟨h.lv, h.ls, h.ok, h.nd, h.hs, h.hv⟩
theorem tr_fcl (h : Tr st) (l : List (List Int)) : Tr { st with f := l } := ⟨h.lv, h.ls, h.ok, h.nd, h.hs, h.hv⟩
/-- Another literal is watched: the round's end. -/
theorem MF.moved (h : MF w0 ow0 B st0 v A n c p kk well wr st kept rest M ow vf vi vv vs vt fs is i s cl a) (hv : okL st0.n v) (hvt : -v ∈ st0.trail) {j : Nat} (hj : 2 ≤ j) {x : Int} (hx : cl[j]? = some x) (hx2 : st.on x = true ∨ st.known x = false) {w1 w2 : World} (hf : Fr ow ow wr w1)
    (hW : Watched w1 ow B { { { st with inn := st.inn.set (pl v) M } with f := st.f.set i (sw cl 1 j) } with inn := (st.inn.set (pl v) M).set (pl x) (st.row x ++ [i]) } vf vi vv vs vt fs is (pl x) w2) :
    LoopF w0 ow0 B st0 v A n c (p + 1) kk well w2 := by
  have hcl : Cl st.n cl := h.fi.wa.cl cl (List.mem_of_getElem? h.hc)
  have hxo : okL st.n x := hcl.ok x (List.mem_of_getElem? hx)
  have hno : -x ∉ st.trail := by
    intro hm
    have hk : st.known x = true := (known_iff h.fi.tr x).2 (.inr hm)
    rcases hx2 with h2 | h2
    · rw [(off_iff h.fi.tr hxo.1 hk).2 hm] at h2; cases h2
    · rw [hk] at h2; cases h2
  have hxv : x ≠ v := fun e => nd_at hcl.nd hx h.h1 (by omega) (by rw [e])
  have hne : pl v ≠ pl x := fun e => hxv (pl_inj e).symm
  have fi' := h.fi.move hv hvt h.hc h.h1 hj hx hno
  obtain ⟨ow', s2, hf2, hr⟩ := hW
  refine ⟨_, kept, rest, M, ow', vf, vi, vv, vs, vt, fs, is.set (pl x) s2, fi', h.k1, by have := h.k2; omega, by have := h.pn; omega, h.ml, h.mt, h.md, ?_, ?_, (h.fr.trans hf).trans hf2⟩
  · have e : (((st.inn.set (pl v) (kept ++ rest)).set (pl x) (st.row x ++ [i])).set (pl v) M) = (st.inn.set (pl v) M).set (pl x) (st.row x ++ [i]) := by
      rw [List.set_comm _ _ (Ne.symm hne), List.set_set]
    show Rp w2 ow' B { n := st.n, f := st.f.set i (sw cl 1 j), inn := (((st.inn.set (pl v) (kept ++ rest)).set (pl x) (st.row x ++ [i])).set (pl v) M), val := st.val, set := st.set, trail := st.trail, head := st.head } vf vi vv vs vt fs (is.set (pl x) s2)
    rw [e]
    exact hr
  · rw [List.getElem?_set_ne (Ne.symm hne)]
    exact h.ia
/-- The clause is kept: the number is put behind those that are kept. -/
structure KF (w0 : World) (ow0 : Nat → Option Role) (B : Nat) (st0 : St) (v : Int) (A : Option Addr) (n c p kk : Nat) (well : Bool) (wr : World) (st : St) (kept rest M : List Nat) (ow : Nat → Option Role) (vf vi vv vs vt : Value) (fs is : List SL) (i : Nat) (s : SL) (cl : List Int) (a : Int) : Prop where
  fi : FI st0 v st kept (i :: rest) well
  k1 : kk = kept.length
  k2 : kk ≤ p
  pn : p < n
  ml : M.length = n
  mt : M.take (kk + 1) = kept ++ [i]
  md : M.drop (p + 1) = rest
  rp : Rp wr ow B { st with inn := st.inn.set (pl v) M } vf vi vv vs vt fs is
  ia : is[pl v]? = some ⟨A, n, c⟩
  fr : Fr ow0 ow w0 wr
  hc : st.f[i]? = some cl
  h0 : cl[0]? = some a
  h1 : cl[1]? = some v
  hs : fs[i]? = some s
theorem take_set {l : List Nat} {k x : Nat} (h : k < l.length) : (l.set k x).take (k + 1) = l.take k ++ [x] := by
  apply List.ext_getElem?
  intro j
  by_cases hj : j < k
  · rw [List.getElem?_take_of_lt (by omega), List.getElem?_set_ne (by omega), List.getElem?_append_left (by rw [List.length_take]; omega), List.getElem?_take_of_lt hj]
  · by_cases he : j = k
    · subst he
      rw [List.getElem?_take_of_lt (by omega), List.getElem?_set_self h, List.getElem?_append_right (by rw [List.length_take]; omega), List.length_take, Nat.min_eq_left (by omega), Nat.sub_self]; rfl
    · rw [List.getElem?_eq_none (by rw [List.length_take, List.length_set]; omega), List.getElem?_eq_none (by simp; omega)]
theorem drop_set {l : List Nat} {k j x : Nat} (h : k < j) : (l.set k x).drop j = l.drop j := by
  rw [List.drop_set]
  rw [if_pos h]
theorem MF.put (h : MF w0 ow0 B st0 v A n c p kk well wr st kept rest M ow vf vi vv vs vt fs is i s cl a) (hv : okL st0.n v) {g : Nat} (hA : A = some ⟨g, 0, none⟩) : KF w0 ow0 B st0 v A n c p kk well ((wr.alloc (.cells #[.int .i64 (i : Int)] 3)).setCell ⟨g, kk, none⟩ (.int .i64 (i : Int))) st kept rest (M.set kk i) ow vf vi vv vs vt fs is i s cl a := by
  have hb := below_alloc (Below.refl wr.heap.size wr) (.cells #[.int .i64 (i : Int)] 3)
  have h' := h.below hb
  have hkM : kk < M.length := by rw [h.ml]; have := h.k2; have := h.pn; omega
  obtain ⟨hch, hr⟩ := h'.rp.liPut h.ia (h.innAt hv) (g := g) (n := n) (cap := c) (by rw [hA]; rfl) kk i
  refine ⟨h.fi, h.k1, h.k2, h.pn, by rw [List.length_set]; exact h.ml, by rw [take_set hkM, h.mt], by rw [drop_set (by have := h.k2; omega)]; exact h.md, ?_, h.ia, h'.fr.trans hch.fr, h.hc, h.h0, h.h1, h.hs⟩
  have e : ((st.inn.set (pl v) M).set (pl v) (M.set kk i)) = st.inn.set (pl v) (M.set kk i) := by rw [List.set_set]
  rw [← e]
  exact hr
theorem KF.fin (h : KF w0 ow0 B st0 v A n c p kk well wr st kept rest M ow vf vi vv vs vt fs is i s cl a) {st' : St} {well' : Bool} (hfi : FI st0 v st' (kept ++ [i]) rest well') {w1 : World} {ow1 : Nat → Option Role} {vt' : Value} (hf : Fr ow ow1 wr w1) (hr : Rp w1 ow1 B { st' with inn := st'.inn.set (pl v) M } vf vi vv vs vt' fs is) : LoopF w0 ow0 B st0 v A n c (p + 1) (kk + 1) well' w1 :=
  ⟨st', kept ++ [i], rest, M, ow1, vf, vi, vv, vs, vt', fs, is, hfi, by rw [List.length_append, ← h.k1]; rfl, by have := h.k2; omega, by have := h.pn; omega, h.ml, h.mt, h.md, hr, h.ia, h.fr.trans hf⟩
/-- Nothing is looked at any more. -/
theorem KF.end0 (h : KF w0 ow0 B st0 v A n c p kk false wr st kept rest M ow vf vi vv vs vt fs is i s cl a) : LoopF w0 ow0 B st0 v A n c (p + 1) (kk + 1) false wr :=
  h.fin (h.fi.keep h.hc h.h1 (fun e => by cases e)) (Fr.refl _ _) h.rp
/-- The first literal holds. -/
theorem KF.end1 (h : KF w0 ow0 B st0 v A n c p kk true wr st kept rest M ow vf vi vv vs vt fs is i s cl a) (hk : st.known a = true) (ho : st.on a = true) {w1 : World} (hT : Turned wr ow B (if st.known a then { st with inn := st.inn.set (pl v) M } else St.assign { st with inn := st.inn.set (pl v) M } a) vf vi vv vs fs is w1) : LoopF w0 ow0 B st0 v A n c (p + 1) (kk + 1) true w1 := by
  rw [hk, if_pos rfl] at hT
  obtain ⟨ow', vt', hf, hr⟩ := hT
  have hcl : Cl st.n cl := h.fi.wa.cl cl (List.mem_of_getElem? h.hc)
  have ha : a ∈ st.trail := (on_iff h.fi.tr (hcl.ok a (List.mem_of_getElem? h.h0)).1 hk).1 ho
  exact h.fin (h.fi.keep h.hc h.h1 (fun _ => ⟨a, h.h0, ha⟩)) hf hr
theorem KF.failed (h : KF w0 ow0 B st0 v A n c p kk true wr st kept rest M ow vf vi vv vs vt fs is i s cl a) (hF : Failed st cl cl.length) : ∀ (j : Nat) (x : Int), 2 ≤ j → cl[j]? = some x → -x ∈ st.trail := by
  intro j x hj hx
  have hcl : Cl st.n cl := h.fi.wa.cl cl (List.mem_of_getElem? h.hc)
  obtain ⟨h1, h2⟩ := hF j x hj (lt_of hx) hx
  exact (off_iff h.fi.tr (hcl.ok x (List.mem_of_getElem? hx)).1 h1).1 h2
/-- It has failed as all others. -/
theorem KF.end2 (h : KF w0 ow0 B st0 v A n c p kk true wr st kept rest M ow vf vi vv vs vt fs is i s cl a) (hvt : -v ∈ st0.trail) (hF : Failed st cl cl.length) (hk : st.known a = true) (ho : st.on a = false) {w1 : World} (hT : Turned wr ow B (if st.known a then { st with inn := st.inn.set (pl v) M } else St.assign { st with inn := st.inn.set (pl v) M } a) vf vi vv vs fs is w1) : LoopF w0 ow0 B st0 v A n c (p + 1) (kk + 1) false w1 := by
  rw [hk, if_pos rfl] at hT
  obtain ⟨ow', vt', hf, hr⟩ := hT
  have hcl : Cl st.n cl := h.fi.wa.cl cl (List.mem_of_getElem? h.hc)
  have ha : -a ∈ st.trail := (off_iff h.fi.tr (hcl.ok a (List.mem_of_getElem? h.h0)).1 hk).1 ho
  exact h.fin (h.fi.conflict hvt h.hc h.h1 (h.failed hF) h.h0 ha) hf hr
/-- It is open. -/
theorem KF.end3 (h : KF w0 ow0 B st0 v A n c p kk true wr st kept rest M ow vf vi vv vs vt fs is i s cl a) (hvt : -v ∈ st0.trail) (hF : Failed st cl cl.length) (hk : st.known a = false) {w1 : World} (hT : Turned wr ow B (if st.known a then { st with inn := st.inn.set (pl v) M } else St.assign { st with inn := st.inn.set (pl v) M } a) vf vi vv vs fs is w1) : LoopF w0 ow0 B st0 v A n c (p + 1) (kk + 1) true w1 := by
  rw [hk, if_neg (by simp)] at hT
  obtain ⟨ow', vt', hf, hr⟩ := hT
  exact h.fin (h.fi.unit hvt h.hc h.h1 (h.failed hF) h.h0 hk) hf hr
/-! ### what is called in a round -/
theorem MF.clause (h : MF w0 ow0 B st0 v A n c p kk well wr st kept rest M ow vf vi vv vs vt fs is i s cl a) : Cl st.n cl := h.fi.wa.cl cl (List.mem_of_getElem? h.hc)
theorem MF.nb (h : MF w0 ow0 B st0 v A n c p kk well wr st kept rest M ow vf vi vv vs vt fs is i s cl a) (hb : Bd st0) : st.n ≤ 65536 := by rw [h.fi.n]; exact hb.n
theorem MF.isA (h : MF w0 ow0 B st0 v A n c p kk well wr st kept rest M ow vf vi vv vs vt fs is i s cl a) (hb : Bd st0) : Calls Try.prog 40 #[.pointer (some ⟨B, 0, none⟩), .int .i64 a] wr fun e w' => e = .returned (.tuple #[.bool (st.on a), .bool (st.known a)]) ∧ Drawn0 wr w' :=
  is40 ⟨_, _, _, _, _, _, _, h.rp⟩ (tr_inn h.fi.tr _) (h.nb hb) (h.clause.ok a (List.mem_of_getElem? h.h0))
theorem MF.other (h : MF w0 ow0 B st0 v A n c p kk well wr st kept rest M ow vf vi vv vs vt fs is i s cl a) (hb : Bd st0) : Calls Try.prog 47 #[.pointer (some ⟨B, 0, none⟩), s.v] wr (OtherP wr ow B { st with inn := st.inn.set (pl v) M } vf vi vv vs vt fs is i cl) :=
  other47 h.rp (tr_inn h.fi.tr _) (h.nb hb) h.hs h.hc h.clause
theorem MF.watch (h : MF w0 ow0 B st0 v A n c p kk well wr st kept rest M ow vf vi vv vs vt fs is i s cl a) (hb : Bd st0) (hv : okL st0.n v) {j : Nat} (hj : 2 ≤ j) {x : Int} (hx : cl[j]? = some x) {w1 : World} (hr : Rp w1 ow B { { st with inn := st.inn.set (pl v) M } with f := st.f.set i (sw cl 1 j) } vf vi vv vs vt fs is) :
    Calls Try.prog 27 #[.pointer (some ⟨B, 0, none⟩), .int .i64 x, .int .i64 (i : Int)] w1 fun e w' => e = .returned (.tuple #[]) ∧ Watched w1 ow B { { { st with inn := st.inn.set (pl v) M } with f := st.f.set i (sw cl 1 j) } with inn := (st.inn.set (pl v) M).set (pl x) (st.row x ++ [i]) } vf vi vv vs vt fs is (pl x) w' := by
  have hxo : okL st.n x := h.clause.ok x (List.mem_of_getElem? hx)
  have hxv : x ≠ v := fun e => nd_at h.clause.nd hx h.h1 (by omega) (by rw [e])
  have hne : pl v ≠ pl x := fun e => hxv (pl_inj e).symm
  have e : (St.row { { st with inn := st.inn.set (pl v) M } with f := st.f.set i (sw cl 1 j) } x) = st.row x := by
    show (st.inn.set (pl v) M).getD (pl x) [] = st.inn.getD (pl x) []
    rw [D.getD_set_ne hne]
  have := watch27 hr (by show (st.inn.set (pl v) M).length = _; rw [List.length_set]; exact h.fi.wa.hi) (h.nb hb) hxo i (by rw [e]; have h1 := h.fi.wa.rowlen hxo; have h2 := h.fi.pf.1; have h3 := hb.m; omega)
  rw [e] at this
  exact this
theorem KF.need (h : KF w0 ow0 B st0 v A n c p kk well wr st kept rest M ow vf vi vv vs vt fs is i s cl a) (hb : Bd st0) : Calls Try.prog 26 #[.pointer (some ⟨B, 0, none⟩), .int .i64 a] wr fun e w' => e = .returned (.bool (!st.known a || st.on a)) ∧ Turned wr ow B (if st.known a then { st with inn := st.inn.set (pl v) M } else St.assign { st with inn := st.inn.set (pl v) M } a) vf vi vv vs fs is w' := by
  have hcl : Cl st.n cl := h.fi.wa.cl cl (List.mem_of_getElem? h.hc)
  have hn : st.n ≤ 65536 := by rw [h.fi.n]; exact hb.n
  exact need26 h.rp (tr_inn h.fi.tr _) hn (by have := h.fi.tr.len; show st.trail.length ≤ _; omega) (hcl.ok a (List.mem_of_getElem? h.h0))
theorem MF.c0 (h : MF w0 ow0 B st0 v A n c p kk well wr st kept rest M ow vf vi vv vs vt fs is i s cl a) {g k cap : Nat} (hv : s.v = .slice (some ⟨g, 0, none⟩) k cap) : wr.cell? ⟨g, 0, none⟩ = some (.int .i64 a) := (h.rp.clCell h.hs h.hc hv h.h0).1
theorem KF.c0 (h : KF w0 ow0 B st0 v A n c p kk well wr st kept rest M ow vf vi vv vs vt fs is i s cl a) {g k cap : Nat} (hv : s.v = .slice (some ⟨g, 0, none⟩) k cap) : wr.cell? ⟨g, 0, none⟩ = some (.int .i64 a) := (h.rp.clCell h.hs h.hc hv h.h0).1
theorem MF.slot (h : MF w0 ow0 B st0 v A n c p kk well wr st kept rest M ow vf vi vv vs vt fs is i s cl a) (hv : okL st0.n v) {g : Nat} (hA : A = some ⟨g, 0, none⟩) : ∃ u, wr.cell? ⟨g, kk, none⟩ = some u ∧ wr.frozen? ⟨g, kk, none⟩ = false := by
  have hkM : kk < M.length := by rw [h.ml]; have := h.k2; have := h.pn; omega
  have := h.rp.liCell h.ia (h.innAt hv) (g := g) (n := n) (cap := c) (by rw [hA]; rfl) (List.getElem?_eq_getElem hkM)
  exact ⟨_, this.1, this.2⟩
theorem moved_c1 {w1 : World} {j : Nat} {x : Int} (hr : Rp w1 ow B { { st with inn := st.inn.set (pl v) M } with f := st.f.set i (sw cl 1 j) } vf vi vv vs vt fs is) (hc : st.f[i]? = some cl) (hs : fs[i]? = some s) (hj : 2 ≤ j) (hx : cl[j]? = some x) {g k cap : Nat} (hv : s.v = .slice (some ⟨g, 0, none⟩) k cap) : w1.cell? ⟨g, 1, none⟩ = some (.int .i64 x) :=
  (hr.clCell hs (show (st.f.set i (sw cl 1 j))[i]? = some _ from List.getElem?_set_self (lt_of hc)) hv (sw_left (by omega) (by have := lt_of hx; omega) hx)).1
/-- All were gone through, and what is kept is put back. -/
theorem LF.last (h : LF w0 ow0 B st0 v A n c n kk well wr st kept [] M ow vf vi vv vs vt fs is) (hv : okL st0.n v) {g n2 c2 : Nat} (hvi : vi = .slice (some ⟨g, 0, none⟩) n2 c2) : FE st0 v st well ∧ ∃ ow', Fr ow0 ow' w0 (wr.setCell ⟨g, pl v, none⟩ (.slice A kk c)).drew ∧ Rep (wr.setCell ⟨g, pl v, none⟩ (.slice A kk c)).drew ow' B st := by
  have hO := h.rp.ic (pl v) _ M h.ia (h.innAt hv)
  have hkM : kk ≤ (ints M).length := by rw [ints_length, h.ml]; exact h.k2
  have hO2 : OR (Kd.int .i64) 3 wr ow (.li (pl v)) (.slice A kk c) (ints kept) := by
    have := Kd.R_take (show Kd.R (Kd.int .i64) 3 wr 0 _ (.slice A n c) _ from hO) hkM
    have e : (ints M).take kk = ints kept := by rw [← h.mt]; unfold ints; rw [List.map_take]
    rw [e] at this
    exact this
  have hr := h.rp.newLi (s2 := ⟨A, kk, c⟩) (Chg.of_below (Below.refl _ _)) hO2 hvi
  have hog : ow g = some .inn := h.rp.i.block (by rw [hvi]; rfl)
  have e : (st.inn.set (pl v) M).set (pl v) kept = st.inn := by
    rw [List.set_set]
    have hl : pl v < st.inn.length := by rw [h.fi.wa.hi, h.fi.n]; exact pl_lt hv
    apply List.ext_getElem?
    intro j
    by_cases hj : pl v = j
    · subst hj
      rw [List.getElem?_set_self hl]
      have := h.fi.row
      unfold St.row at this
      rw [List.getD_eq_getElem?_getD, List.append_nil] at this
      rw [← this, List.getElem?_eq_getElem hl]; rfl
    · rw [List.getElem?_set_ne hj]
  refine ⟨h.fi.fin, ow, (h.fr.trans (Chg.set hog (pl v) _).fr).trans (Fr.of_below (bd_drew _)), ?_⟩
  have hr' : Rp (wr.setCell ⟨g, pl v, none⟩ (.slice A kk c)) ow B { st with inn := (st.inn.set (pl v) M).set (pl v) kept } vf vi vv vs vt fs (is.set (pl v) ⟨A, kk, c⟩) := hr
  rw [e] at hr'
  exact ⟨_, _, _, _, _, _, _, hr'.below (bd_drew _)⟩
end
end Go.Proofs.Ytnhpfdnhnocgjaa.S
