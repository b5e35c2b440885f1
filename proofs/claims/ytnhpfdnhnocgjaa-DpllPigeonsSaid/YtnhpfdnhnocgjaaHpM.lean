/- Joined by a program of this session out of: HpK, HpL, HpM. -/
import Derived.Test.YtnhpfdnhnocgjaaHpJ
import Derived.Test.YtnhpfdnhnocgjaaDpE
/- The row of decisions, and what holds in the loop of run: no walk. -/
namespace Go.Proofs.Ytnhpfdnhnocgjaa.S
open Go.RowKit Go.Proofs.Ytnhpfdnhnocgjaa.D Go.Proofs.YtnhpfdnhnocgjaaW.PrintWords Go.Proofs.YtnhpfdnhnocgjaaW.PrintLast Go.Proofs.YtnhpfdnhnocgjaaW.PrintMore
set_option linter.unusedVariables false
set_option linter.unusedSimpArgs false
theorem info62 : (Try.prog.info? 62).map (fun i => (i.zero, i.size, i.bytes)) = some (some (.agg #[.int .i64 0, .int .i64 0, .int .i64 0, .bool false]), 4, 32) := by kernel_rfl
def cellsCh (c : Ch) : List Value := [.int .i64 c.lit, .int .i64 (c.trail : Int), .int .i64 (c.frm : Int), .bool c.second]
def flatCh (l : List Ch) : List Value := l.flatMap cellsCh
theorem flatCh_length : ∀ l : List Ch, (flatCh l).length = l.length * 4
  | [] => rfl
  | c :: l => by
    have e : flatCh (c :: l) = cellsCh c ++ flatCh l := rfl
    rw [e, List.length_append, flatCh_length l, List.length_cons]
    show 4 + _ = _
    omega
theorem flatCh_snoc (l : List Ch) (c : Ch) : flatCh (l ++ [c]) = flatCh l ++ cellsCh c := by
  unfold flatCh
  rw [List.flatMap_append]
  simp
def ChRow (w : World) (base : Nat) (v : Value) (l : List Ch) : Prop := w.ownsRow base 62 4 v l.length (flatCh l)
section
variable {w w1 : World} {base : Nat} {v : Value} {l : List Ch} {c : Ch}
theorem ChRow.nil (w : World) (base : Nat) : ChRow w base (.slice none 0 0) [] := ⟨rfl, .inl ⟨rfl, rfl⟩⟩
theorem ChRow.move (h : ChRow w base v l) (hm : ∀ k, v.ownBlock = some k → w1.heap[k]? = w.heap[k]?) : ChRow w1 base v l := own_move h hm
theorem ChRow.lt (h : ChRow w base v l) {k : Nat} (hk : v.ownBlock = some k) : k < w.heap.size := own_lt h k hk
theorem ChRow.ge (h : ChRow w base v l) {k : Nat} (hk : v.ownBlock = some k) : base ≤ k := own_base h k hk
theorem ChRow.slice (h : ChRow w base v l) : ∃ A cap, v = .slice A l.length cap := by
  rcases h.2 with ⟨h1, h2⟩ | ⟨g, cap, cur, h1, _⟩
  · exact ⟨none, 0, by rw [h1, h2]⟩
  · exact ⟨_, cap, h1⟩
/-- The last decision, in its cells. -/
theorem ChRow.last (h : ChRow w base v (l ++ [c])) : ∃ g cap cur, v = .slice (some ⟨g, 0, none⟩) (l.length + 1) cap ∧ base ≤ g ∧ w.heap[g]? = some (.cells cur 62 (0, 0)) ∧
    w.cell? ⟨g, l.length * 4, none⟩ = some (.int .i64 c.lit) ∧ w.cell? ⟨g, l.length * 4 + 1, none⟩ = some (.int .i64 (c.trail : Int)) ∧ w.cell? ⟨g, l.length * 4 + 2, none⟩ = some (.int .i64 (c.frm : Int)) ∧ w.cell? ⟨g, l.length * 4 + 3, none⟩ = some (.bool c.second) ∧ l.length + 1 ≤ cap ∧
    ChRow w base (.slice (some ⟨g, 0, none⟩) l.length cap) l := by
  have hlen : (l ++ [c]).length = l.length + 1 := by simp
  rcases h.2 with ⟨_, h2⟩ | ⟨g, cap, cur, hv, hg, hh, hn, hm, hs, ht⟩
  · rw [hlen] at h2; omega
  rw [hlen] at hv hn ht
  have hat : ∀ (j : Nat) (u : Value), (flatCh (l ++ [c]))[j]? = some u → w.cell? ⟨g, j, none⟩ = some u := by
    intro j u hu
    have hj : j < (flatCh (l ++ [c])).length := lt_of hu
    rw [flatCh_length, hlen] at hj
    rw [blk_cell hh, ← Array.getElem?_toList, ← hu, ← ht, List.getElem?_take_of_lt hj]
  have hcs : ∀ (j : Nat) (u : Value), (cellsCh c)[j]? = some u → w.cell? ⟨g, l.length * 4 + j, none⟩ = some u := by
    intro j u hu
    refine hat _ _ ?_
    rw [flatCh_snoc, List.getElem?_append_right (by rw [flatCh_length]; omega), flatCh_length, Nat.add_sub_cancel_left]
    exact hu
  refine ⟨g, cap, cur, hv, hg, hh, hcs 0 _ rfl, hcs 1 _ rfl, hcs 2 _ rfl, hcs 3 _ rfl, hn, ?_⟩
  refine ⟨flatCh_length l, .inr ⟨g, cap, cur, rfl, hg, hh, by omega, hm, hs, ?_⟩⟩
  have := congrArg (List.take (l.length * 4)) ht
  have e2 : (flatCh l).take (l.length * 4) = flatCh l := List.take_of_length_le (by rw [flatCh_length]; exact Nat.le_refl _)
  rw [List.take_take, Nat.min_eq_left (by omega), flatCh_snoc, List.take_append_of_le_length (by rw [flatCh_length]; exact Nat.le_refl _), e2] at this
  exact this
/-- The last decision turned about. -/
theorem ChRow.turn {g cap : Nat} (h : ChRow w base (.slice (some ⟨g, 0, none⟩) (l.length + 1) cap) (l ++ [c])) (x : Int) (b : Bool) : ChRow ((w.setCell ⟨g, l.length * 4, none⟩ (.int .i64 x)).setCell ⟨g, l.length * 4 + 3, none⟩ (.bool b)) base (.slice (some ⟨g, 0, none⟩) (l.length + 1) cap) (l ++ [{ c with lit := x, second := b }]) := by
  have hlen : ∀ c : Ch, (l ++ [c]).length = l.length + 1 := fun c => by simp
  rcases h.2 with ⟨h1, _⟩ | ⟨g', cap', cur, hv, hg, hh, hn, hm, hs, ht⟩
  · cases h1
  rw [hlen] at hv hn ht
  injection hv with hv1 _ hv3
  injection hv1 with hv1
  injection hv1 with hv1
  subst hv1 hv3
  refine ⟨flatCh_length _, .inr ⟨g, cap, (cur.setIfInBounds (l.length * 4) (.int .i64 x)).setIfInBounds (l.length * 4 + 3) (.bool b), by rw [hlen], hg, blk_set (blk_set hh _ _) _ _, by rw [hlen]; exact hn, hm, by simpa using hs, ?_⟩⟩
  rw [hlen, Array.toList_setIfInBounds, Array.toList_setIfInBounds]
  have e : ((cur.toList.set (l.length * 4) (.int .i64 x)).set (l.length * 4 + 3) (.bool b)).take ((l.length + 1) * 4) = ((cur.toList.take ((l.length + 1) * 4)).set (l.length * 4) (.int .i64 x)).set (l.length * 4 + 3) (.bool b) := by
    rw [List.take_set, List.take_set]
  rw [e, ht, flatCh_snoc, flatCh_snoc]
  have hf := flatCh_length l
  rw [List.set_append_right _ _ (by omega), List.set_append_right _ _ (by omega), hf, Nat.sub_self, Nat.add_sub_cancel_left]
  rfl
end
section
variable {ops : Array Oper} {rest : List Oper} {o : Oper} {a : Act} {Q : Exit → Act → World → Prop}
theorem ch_append (hgd : o.guard = none) (s x : Operand) (ho : o.op = .call { callee := .builtin .append, args := #[s, x], argTypes := #[58, 58] }) {W : World} {base : Nat} (v : Value) (l : List Ch) (c : Ch) (hs : a.eval s = v) (hx : a.eval x = .slice (some ⟨W.heap.size, 0, none⟩) 1 1)
    (HO : ChRow W base v l) (hbase : base ≤ W.heap.size) (hl : l.length ≤ 100000)
    (h : ∀ v1 w1, ChRow w1 base v1 (l ++ [c]) → W.grownBy w1 v.ownBlock → (v1.ownBlock = v.ownBlock ∨ ∃ b, v1.ownBlock = some b ∧ W.heap.size ≤ b) → wpList Try.prog ops Q rest (a.put o.dst v1) w1) :
    wpList Try.prog ops Q (o :: rest) a (W.alloc (.cells #[.int .i64 c.lit, .int .i64 (c.trail : Int), .int .i64 (c.frm : Int), .bool c.second] 62)) := by
  refine print_append_cells (w0 := W) (ys := cellsCh c) base hgd s x 58 62 _ 4 32 ho Try.underlying58 info62 rfl (by decide) (by decide) v l.length (flatCh l) hs hx rfl (fun u hu => by
    simp only [cellsCh, List.mem_cons, List.not_mem_nil, or_false] at hu
    rcases hu with rfl | rfl | rfl | rfl <;> rfl) HO ⟨rfl, rfl, rfl, Nat.le_refl _, fun _ _ => rfl⟩ hbase (by omega) ?_
  intro v1 w1 h1 _ h3 h4
  refine h v1 w1 ?_ h3 h4
  unfold ChRow
  rw [flatCh_snoc, List.length_append]
  exact h1
end
/-- What is none of the solver's may change. -/
theorem Rp.far {w w1 : World} {ow : Nat → Option Role} {B : Nat} {st : St} {vf vi vv vs vt : Value} {fs is : List SL} (h : Rp w ow B st vf vi vv vs vt fs is) (hz : w.heap.size ≤ w1.heap.size) (hm : ∀ k, k < w.heap.size → ow k ≠ none → w1.heap[k]? = w.heap[k]?) : Rp w1 ow B st vf vi vv vs vt fs is := by
  have mv : ∀ {α : Type} {d : Kd α} {e : Nat} {r : Role} {v : Value} {xs : List α}, OR d e w ow r v xs → OR d e w1 ow r v xs := fun ho => ho.move fun k hk hr => ⟨hm k hk (by rw [hr]; simp), hr⟩
  exact ⟨(hm B (blk_lt h.box) (by rw [h.bo]; simp)).trans h.box, h.bo, mv h.f, mv h.i, mv h.v, mv h.s, mv h.t, h.fl, fun j s c a b => mv (h.fc j s c a b), h.il, fun j s c a b => mv (h.ic j s c a b), fun k hk => h.top k (Nat.le_trans hz hk)⟩
theorem Rep.far {w w1 : World} {ow : Nat → Option Role} {B : Nat} {st : St} (h : Rep w ow B st) (hz : w.heap.size ≤ w1.heap.size) (hm : ∀ k, k < w.heap.size → ow k ≠ none → w1.heap[k]? = w.heap[k]?) : Rep w1 ow B st := by
  obtain ⟨vf, vi, vv, vs, vt, fs, is, h⟩ := h
  exact ⟨vf, vi, vv, vs, vt, fs, is, h.far hz hm⟩
theorem Rep.top {w : World} {ow : Nat → Option Role} {B : Nat} {st : St} (h : Rep w ow B st) : ∀ k, w.heap.size ≤ k → ow k = none := by
  obtain ⟨vf, vi, vv, vs, vt, fs, is, h⟩ := h
  exact h.top
theorem Fr.later {ow0 ow : Nat → Option Role} {w0 w w1 : World} (h : Fr ow0 ow w0 w) (hb : Below w0.heap.size w w1) : Fr ow0 ow w0 w1 :=
  ⟨hb.os.trans h.os, hb.tape.trans h.tape, hb.output.trans h.output, Nat.le_trans h.size hb.size, h.own, fun k hk ho => (hb.block k hk).trans (h.heap k hk ho), fun t k hk => h.top t k (Nat.le_trans hb.size hk)⟩
end Go.Proofs.Ytnhpfdnhnocgjaa.S
/- run: walked over the relation. -/
namespace Go.Proofs.Ytnhpfdnhnocgjaa.S
open Go.RowKit Go.Proofs.Ytnhpfdnhnocgjaa.D Go.Proofs.YtnhpfdnhnocgjaaW.PrintWords Go.Proofs.YtnhpfdnhnocgjaaW.PrintLast Go.Proofs.YtnhpfdnhnocgjaaW.PrintMore
set_option linter.unusedVariables false
set_option linter.unusedSimpArgs false
/-- What run answers. -/
def RunP (w0 : World) (ow0 : Nat → Option Role) (B : Nat) (F : List (List Int)) (n mf : Nat) (budget : Int) (e : Ending) (w' : World) : Prop := ∃ (r : Int) (st : St) (ow : Nat → Option Role), e = .returned (.int .i64 r) ∧ Rep w' ow B st ∧ Fr ow0 ow w0 w' ∧ st.n = n ∧ Tr st ∧
  ((r = 1 ∧ ∀ s, Ext s st.trail → satF s F = true) ∨ (r = 2 ∧ ∀ s, satF s F = true → False) ∨ (r = 3 ∧ budget < 1099511627776 ∧ budget + 1 ≤ (A1 n : Int) ∧ 0 < mf))
structure LR (w0 : World) (ow0 : Nat → Option Role) (B : Nat) (F : List (List Int)) (T0 n mf : Nat) (budget : Int) (kq : Nat) (v5 : Value) (made : Int) (ok : Bool) (frm : Nat) (wr : World) (st : St) (ow : Nat → Option Role) (lm : List Ch) : Prop where
  rep : Rep wr ow B st
  fr : Fr ow0 ow w0 wr
  row : ChRow wr w0.heap.size v5 lm
  own : ∀ k, v5.ownBlock = some k → ow k = none
  rs : RS F T0 st lm.reverse ok frm
  hn : st.n = n
  hmf : st.f.length = mf
  hkq : kq = rounds n lm.reverse ok
  cnt : budget < 1099511627776 → ∃ m : Nat, made = (m : Int) ∧ (m : Int) ≤ budget ∧ m + left n lm.reverse ok ≤ A1 n
def LoopR (w0 : World) (ow0 : Nat → Option Role) (B : Nat) (F : List (List Int)) (T0 n mf : Nat) (budget : Int) (kq : Nat) (v5 : Value) (made : Int) (ok : Bool) (frm : Nat) (wr : World) : Prop := ∃ st ow lm, LR w0 ow0 B F T0 n mf budget kq v5 made ok frm wr st ow lm
section
variable {w0 : World} {ow0 : Nat → Option Role} {B : Nat} {F : List (List Int)} {T0 n mf : Nat} {budget : Int}
/-- What is known ahead of a decision's assignment. -/
structure TL (w0 : World) (ow0 : Nat → Option Role) (B : Nat) (F : List (List Int)) (T0 n mf : Nat) (budget : Int) (gk : Nat) (v5 : Value) (made : Int) (wr : World) (st : St) (ow : Nat → Option Role) (init : List Ch) (c : Ch) : Prop where
  rep : Rep wr ow B st
  fr : Fr ow0 ow w0 wr
  row : ChRow wr w0.heap.size v5 (init ++ [c])
  own : ∀ k, v5.ownBlock = some k → ow k = none
  rd : Ready F T0 st init.reverse c
  hn : st.n = n
  hmf : st.f.length = mf
  hgk : ∀ r, rounds n (c :: init.reverse) r < gk
  cnt : budget < 1099511627776 → ∃ m : Nat, made = (m : Int) ∧ (m : Int) ≤ budget ∧ ∀ r, m + left n (c :: init.reverse) r ≤ A1 n
theorem TL.asg {gk : Nat} {v5 : Value} {made : Int} {wr : World} {st : St} {ow : Nat → Option Role} {init : List Ch} {c : Ch} (h : TL w0 ow0 B F T0 n mf budget gk v5 made wr st ow init c) : Calls Try.prog 31 #[.pointer (some ⟨B, 0, none⟩), .int .i64 c.lit] wr fun e w' => e = .returned (.tuple #[]) ∧ ∃ ow', Fr ow ow' wr w' ∧ Rep w' ow' B (st.assign c.lit) := by
  obtain ⟨vf, vi, vv, vs, vt, fs, is, hr⟩ := h.rep
  have hl := h.rd.rb.tr.len
  refine (assign31 hr h.rd.rb.tr h.rd.rb.n (by have := h.rd.rb.n; omega) h.rd.ok).mono ?_
  rintro e w' ⟨he, ow', vt', hf, hr'⟩
  exact ⟨he, ow', hf, _, _, _, _, _, _, _, hr'⟩
theorem TL.prop {gk : Nat} {v5 : Value} {made : Int} {wr w1 : World} {st : St} {ow ow1 : Nat → Option Role} {init : List Ch} {c : Ch} (h : TL w0 ow0 B F T0 n mf budget gk v5 made wr st ow init c) (hr : Rep w1 ow1 B (st.assign c.lit)) : Calls Try.prog 28 #[.pointer (some ⟨B, 0, none⟩)] w1 (PropP w1 ow1 B (st.assign c.lit)) := by
  refine propagate28 hr (h.rd.rb.tr.assign h.rd.ok h.rd.open_) ⟨h.rd.rb.wa.cl, h.rd.rb.wa.hi, h.rd.rb.wa.nd, h.rd.rb.wa.mem⟩ ⟨h.rd.rb.n, h.rd.rb.m⟩ ?_
  show st.head ≤ (st.trail ++ [c.lit]).length
  rw [h.rd.head, List.length_append]; omega
theorem TL.alloc {gk : Nat} {v5 : Value} {made : Int} {wr : World} {st : St} {ow : Nat → Option Role} {init : List Ch} {c : Ch} (h : TL w0 ow0 B F T0 n mf budget gk v5 made wr st ow init c) (o : Obj) : TL w0 ow0 B F T0 n mf budget gk v5 made (wr.alloc o) st ow init c := by
  have hb := below_alloc (Below.refl wr.heap.size wr) o
  exact ⟨h.rep.below hb, h.fr.later ⟨hb.os, hb.tape, hb.output, hb.size, fun k hk => hb.block k (Nat.lt_of_lt_of_le hk h.fr.size)⟩, h.row.move (fun k hk => hb.block k (h.row.lt hk)), h.own, h.rd, h.hn, h.hmf, h.hgk, h.cnt⟩
theorem TL.fin {gk : Nat} {v5 : Value} {made : Int} {wr w1 w2 : World} {st st' : St} {ow ow1 ow2 : Nat → Option Role} {init : List Ch} {c : Ch} {r : Bool} (h : TL w0 ow0 B F T0 n mf budget gk v5 made wr st ow init c) (hf1 : Fr ow ow1 wr w1) (hp : PE (st.assign c.lit) st' r) (hf2 : Fr ow1 ow2 w1 w2) (hr : Rep w2 ow2 B st') : LoopR w0 ow0 B F T0 n mf budget (rounds n (c :: init.reverse) r) v5 made r c.frm w2 := by
  have hf := hf1.trans hf2
  have hrs := h.rd.go hp
  have e : (init ++ [c]).reverse = c :: init.reverse := by simp
  refine ⟨st', ow2, init ++ [c], hr, h.fr.trans hf, h.row.move (fun k hk => hf.heap k (h.row.lt hk) (h.own k hk)), fun k hk => (hf.own k (h.row.lt hk)).trans (h.own k hk), by rw [e]; exact hrs, hp.n.trans h.hn, by rw [← hp.pf.1]; exact h.hmf, by rw [e], fun hb => ?_⟩
  obtain ⟨m, h1, h2, h3⟩ := h.cnt hb
  exact ⟨m, h1, h2, by rw [e]; exact h3 r⟩
/-- A new decision put behind the others. -/
theorem LR.push {gk : Nat} {A : Option Addr} {cp : Nat} {made made' : Int} {frm : Nat} {wr w2 w3 : World} {st : St} {ow : Nat → Option Role} {lm : List Ch} (h : LR w0 ow0 B F T0 n mf budget gk (.slice A lm.length cp) made true frm wr st ow lm) (hb2 : Below wr.heap.size wr w2) {c : Ch} (hrd : Ready F T0 st lm.reverse c) (hsec : c.second = false) {v3 : Value} (hrow : ChRow w3 w0.heap.size v3 (lm ++ [c])) (hg : w2.grownBy w3 (Value.slice A lm.length cp).ownBlock)
    (hat : v3.ownBlock = (Value.slice A lm.length cp).ownBlock ∨ ∃ b, v3.ownBlock = some b ∧ w2.heap.size ≤ b) (hm : budget < 1099511627776 → ∀ m : Nat, made = (m : Int) → made' = ((m + 1 : Nat) : Int) ∧ ((m + 1 : Nat) : Int) ≤ budget) : TL w0 ow0 B F T0 n mf budget gk v3 made' w3 st ow lm c := by
  have hr2 := h.rep.below hb2
  have hfr2 : Fr ow0 ow w0 w2 := h.fr.later ⟨hb2.os, hb2.tape, hb2.output, hb2.size, fun k hk => hb2.block k (Nat.lt_of_lt_of_le hk h.fr.size)⟩
  have hopen := hrd.rb.tr.assign hrd.ok hrd.open_
  have hlen := hopen.len
  have hl : lm.reverse.length < n := by
    have h1 := hrd.lv.len
    have h2 : (st.trail ++ [c.lit]).length ≤ st.n := hlen
    rw [List.length_append, List.length_singleton] at h2
    rw [← h.hn]; omega
  refine ⟨hr2.far hg.size (fun k hk ho => hg.block k hk (fun e => ho (h.own k e.symm))), hfr2.later ⟨hg.os, hg.tape, hg.output, hg.size, fun k hk => hg.block k (Nat.lt_of_lt_of_le hk hfr2.size) (fun e => by have := h.row.ge e.symm; omega)⟩, hrow, ?_, hrd, h.hn, h.hmf, fun r => by rw [h.hkq]; exact rounds_push hl hsec r, fun hb => ?_⟩
  · intro k hk
    rcases hat with hat | ⟨b, hbk, hbl⟩
    · exact h.own k (by rw [← hat]; exact hk)
    · rw [hbk] at hk
      injection hk with hk
      subst hk
      exact hr2.top _ hbl
  · obtain ⟨m, h1, h2, h3⟩ := h.cnt hb
    obtain ⟨h4, h5⟩ := hm hb m h1
    exact ⟨m + 1, h4, h5, fun r => by have := left_push hl hsec r; omega⟩
/-- The last decision turned about, what stood behind it taken back. -/
theorem LR.flip {gk : Nat} {g cap : Nat} {made : Int} {frm : Nat} {wr w2 : World} {st : St} {ow ow2 : Nat → Option Role} {init : List Ch} {c : Ch} (h : LR w0 ow0 B F T0 n mf budget gk (.slice (some ⟨g, 0, none⟩) (init.length + 1) cap) made false frm wr st ow (init ++ [c])) (hsec : c.second = false) (hf : Fr ow ow2 wr w2) (hr : Rep w2 ow2 B (st.back c.trail)) :
    TL w0 ow0 B F T0 n mf budget gk (.slice (some ⟨g, 0, none⟩) (init.length + 1) cap) made ((w2.setCell ⟨g, init.length * 4, none⟩ (.int .i64 (-c.lit))).setCell ⟨g, init.length * 4 + 3, none⟩ (.bool true)) (st.back c.trail) ow2 init ⟨-c.lit, c.trail, c.frm, true⟩ := by
  have e : (init ++ [c]).reverse = c :: init.reverse := by simp
  have hconf := h.rs.no rfl
  rw [e] at hconf
  obtain ⟨hrd, hle⟩ := hconf.flip h.rs.rb hsec
  have hog : ow g = none := h.own g rfl
  have hgl := h.row.lt (k := g) rfl
  have hgb := h.row.ge (k := g) rfl
  have hog2 : ow2 g = none := (hf.own g hgl).trans hog
  have hrow2 : ChRow w2 w0.heap.size (.slice (some ⟨g, 0, none⟩) (init.length + 1) cap) (init ++ [c]) := h.row.move (fun k hk => hf.heap k (h.row.lt hk) (h.own k hk))
  have hset : ∀ (w : World) (j : Nat) (u : Value), Below w0.heap.size w (w.setCell ⟨g, j, none⟩ u) := fun w j u => (Below.refl _ w).setCell hgb u
  have hz : ∀ (w : World) (j : Nat) (u : Value), w.heap.size ≤ (w.setCell ⟨g, j, none⟩ u).heap.size := fun w j u => ((Below.refl 0 w).setCell (Nat.zero_le _) u).size
  have hk1 : ∀ (w : World) (j : Nat) (u : Value), ∀ k, k < w.heap.size → ow2 k ≠ none → (w.setCell ⟨g, j, none⟩ u).heap[k]? = w.heap[k]? := fun w j u k _ ho => Below.heap_setCell w ⟨g, j, none⟩ u k (fun e => ho (by rw [show k = g from e]; exact hog2))
  have hl : init.reverse.length < n := by
    have h1 := hconf.1.1.len
    have h2 := hconf.2.1
    have h3 := h.rs.rb.tr.len
    rw [h.hn] at h3; omega
  refine ⟨(hr.far (hz _ _ _) (hk1 _ _ _)).far (hz _ _ _) (hk1 _ _ _), ((h.fr.trans hf).later (hset _ _ _)).later (hset _ _ _), hrow2.turn (-c.lit) true, ?_, hrd, h.hn, h.hmf, fun r => ?_, fun hb => ?_⟩
  · intro k hk
    have : g = k := by simpa [Value.ownBlock] using hk
    subst this
    exact hog2
  · rw [h.hkq, e]
    exact rounds_flip hl hsec rfl r
  · obtain ⟨m, h1, h2, h3⟩ := h.cnt hb
    rw [e] at h3
    exact ⟨m, h1, h2, fun r => Nat.le_trans (Nat.add_le_add_left (left_flip hl hsec rfl r) _) h3⟩
/-- A decision of which both sides were tried is taken off. -/
theorem LR.pop {gk : Nat} {v5 : Value} {made : Int} {frm : Nat} {wr : World} {st : St} {ow : Nat → Option Role} {init : List Ch} {c : Ch} (h : LR w0 ow0 B F T0 n mf budget gk v5 made false frm wr st ow (init ++ [c])) (hsec : c.second = true) {g cap : Nat} (hv : v5 = .slice (some ⟨g, 0, none⟩) (init.length + 1) cap) : LR w0 ow0 B F T0 n mf budget gk (.slice (some ⟨g, 0, none⟩) init.length cap) made false frm wr st ow init := by
  have e : (init ++ [c]).reverse = c :: init.reverse := by simp
  have hconf := h.rs.no rfl
  rw [e] at hconf
  obtain ⟨g', cap', cur, hv', _, _, _, _, _, _, _, hrow⟩ := h.row.last
  rw [hv] at hv'
  injection hv' with h1 _ h3
  injection h1 with h1
  injection h1 with h1
  subst h1 h3
  refine ⟨h.rep, h.fr, hrow, fun k hk => h.own k (by rw [hv]; exact hk), ⟨h.rs.rb, (fun e => by cases e), fun _ => hconf.pop h.rs.rb hsec⟩, h.hn, h.hmf, by rw [h.hkq, e, rounds_pop hsec], fun hb => ?_⟩
  obtain ⟨m, h1, h2, h3⟩ := h.cnt hb
  exact ⟨m, h1, h2, by rw [e, left_pop hsec] at h3; exact h3⟩
theorem LR.cells {gk : Nat} {g cap : Nat} {made : Int} {frm : Nat} {wr w2 : World} {st : St} {ow ow2 : Nat → Option Role} {init : List Ch} {c : Ch} (h : LR w0 ow0 B F T0 n mf budget gk (.slice (some ⟨g, 0, none⟩) (init.length + 1) cap) made false frm wr st ow (init ++ [c])) (hf : Fr ow ow2 wr w2) :
    w2.cell? ⟨g, init.length * 4, none⟩ = some (.int .i64 c.lit) ∧ w2.cell? ⟨g, init.length * 4 + 1, none⟩ = some (.int .i64 (c.trail : Int)) ∧ w2.cell? ⟨g, init.length * 4 + 2, none⟩ = some (.int .i64 (c.frm : Int)) ∧ w2.cell? ⟨g, init.length * 4 + 3, none⟩ = some (.bool c.second) ∧ ∀ j, w2.frozen? ⟨g, j, none⟩ = false := by
  have hrow : ChRow w2 w0.heap.size (.slice (some ⟨g, 0, none⟩) (init.length + 1) cap) (init ++ [c]) := h.row.move (fun k hk => hf.heap k (h.row.lt hk) (h.own k hk))
  obtain ⟨g', cap', cur, hv', _, hh, a0, a1, a2, a3, _, _⟩ := hrow.last
  injection hv' with h1 _ h3
  injection h1 with h1
  injection h1 with h1
  subst h1 h3
  exact ⟨a0, a1, a2, a3, fun j => blk_frozen hh j⟩
def lenOf : Value → Nat
  | .slice _ n _ => n
  | _ => 0
end
set_option maxRecDepth 100000 in
set_option maxHeartbeats 8000000 in
theorem run20 {w : World} {ow : Nat → Option Role} {B : Nat} {st : St} {F : List (List Int)} {T0 : Nat} (hR : Rep w ow B st) (hS : RS F T0 st [] true 0) {budget : Int} (hb : 0 ≤ budget) :
    Calls Try.prog 20 #[.pointer (some ⟨B, 0, none⟩), .int .i64 budget] w (RunP w ow B F st.n st.f.length budget) := by
  have HL0 : Aside0 (LoopR w ow B F T0 st.n st.f.length budget (rounds st.n [] true) (.slice none 0 0) 0 true 0 w) := ⟨st, ow, [], hR, Fr.refl _ _, ChRow.nil _ _, (fun k hk => by simp [Value.ownBlock] at hk), hS, rfl, rfl, rfl, fun _ => ⟨0, rfl, hb, by unfold left; simp [pendA]⟩⟩
  obtain ⟨n, hn⟩ : ∃ n, st.n = n := ⟨_, rfl⟩
  obtain ⟨mf, hmf⟩ : ∃ n, st.f.length = n := ⟨_, rfl⟩
  obtain ⟨k0, hk0⟩ : ∃ k, rounds st.n [] true = k := ⟨_, rfl⟩
  rw [hk0, hn, hmf] at HL0
  rw [hn, hmf]
  clear hn hmf hk0 hR hS
  go_enter Try.func20, Try.ntmps20
  go_wp2
  go_loopg [5, 6, 7, 8] k0 (fun kq v5 v6 v7 v8 wr => ∃ (made : Int) (ok : Bool) (frm : Nat), v6 = .int .i64 made ∧ v7 = .bool ok ∧ v8 = .int .i64 (frm : Int) ∧ Aside0 (LoopR w ow B F T0 n mf budget kq v5 made ok frm wr))
  case atStart => exact ⟨0, true, 0, rfl, rfl, rfl, HL0⟩
  case round =>
    obtain ⟨made, ok, frm, rfl, rfl, rfl, HL⟩ := hrel
    obtain ⟨st1, ow1, lm, hL⟩ := HL.out
    cases ok
    · obtain ⟨wo, rfl⟩ : ∃ wo : World, wo = wr := ⟨_, rfl⟩
      obtain ⟨kg, rfl⟩ : ∃ kg, kg = gk := ⟨_, rfl⟩
      obtain ⟨A5, cp5, hv5⟩ := hL.row.slice
      subst hv5
      have HL1 := Aside0.mk hL
      clear hL
      go_wp2
      go_loopw [5] (fun v5 ws => ∃ lm', Aside0 (LR w ow B F T0 n mf budget kg v5 made false frm wo st1 ow1 lm') ∧ ws = wo) (fun v5 _ => lenOf v5)
      case atStart => exact ⟨lm, HL1, rfl⟩
      case round =>
        obtain ⟨lm', HL2, rfl⟩ := hrel
        rcases List.eq_nil_or_concat lm' with rfl | ⟨init, c, rfl⟩
        · obtain ⟨A, cp, hv⟩ := HL2.out.row.slice
          subst hv
          go_wp2
          go_ret
          exact ⟨2, st1, ow1, rfl, HL2.out.rep, HL2.out.fr, HL2.out.hn, HL2.out.rs.rb.tr, .inr (.inl ⟨rfl, HL2.out.rs.no rfl⟩)⟩
        · rw [List.concat_eq_append] at HL2
          obtain ⟨g, cap, cur, hv, hgb, hgh, t0, t1, t2, t3, hcap, _⟩ := HL2.out.row.last
          subst hv
          have HGH := Aside0.mk hgh
          have hm16 : init.length ≤ 65536 := by
            have h0 := HL2.out.rs.no rfl
            rw [show (init ++ [c]).reverse = c :: init.reverse by simp] at h0
            have h1 := h0.1.1.len
            have h2 := h0.2.1
            have h3 := HL2.out.rs.rb.tr.len
            have h4 := HL2.out.rs.rb.n
            rw [List.length_reverse] at h1
            omega
          have hpop := Aside0.mk (fun hs : c.second = true => HL2.out.pop hs rfl)
          have hlit : IntKind.i64.wrap (-c.lit) = -c.lit ∧ c.trail ≤ st1.trail.length := by
            have h0 := HL2.out.rs.no rfl
            rw [show (init ++ [c]).reverse = c :: init.reverse by simp] at h0
            have h1 := HL2.out.rs.rb.tr.ok _ (List.mem_of_getElem? h0.1.2.1)
            have h4 := HL2.out.rs.rb.n
            exact ⟨wrap_neg (by have := h1.2; omega) (by have := h1.2; omega), by have := h0.2.1; omega⟩
          have hwl := hlit.1
          have hbk := Aside0.mk (back30 HL2.out.rep HL2.out.rs.rb.tr HL2.out.rs.rb.n hlit.2)
          obtain ⟨sec, hsec⟩ : ∃ b, c.second = b := ⟨_, rfl⟩
          obtain ⟨m, hm⟩ : ∃ m, init.length = m := ⟨_, rfl⟩
          have HLN := Aside0.mk hm
          have HSC := Aside0.mk hsec
          rw [hm] at t0 t1 t2 t3 hcap hm16 hpop
          rw [hsec] at t3
          rw [hm]
          have hm1 : IntKind.i64.wrap (((m + 1 : Nat) : Int) - 1) = (m : Int) := by rw [show (((m + 1 : Nat) : Int) - 1) = (m : Int) by omega]; exact IntWalk.i64_in _ (by omega)
          clear hm hsec hlit hgb hgh
          cases sec
          · go_wp2_with fail
            go_at_call 30
            refine hbk.out.mono ?_
            rintro e w2 ⟨rfl, ow2, hf2, hr2⟩
            obtain ⟨a0, a1, a2, a3, af⟩ := HL2.out.cells hf2
            have hT := HL2.out.flip HSC.out hf2 hr2
            rw [HLN.out] at hT a0 a1 a2 a3
            rw [HSC.out] at a3
            have f0 := af (m * 4)
            have f3 := af (m * 4 + 3)
            have HT := Aside0.mk hT
            have HT4 := Aside0.mk (hT.alloc (.cells #[.int .i64 (-c.lit), .int .i64 (c.trail : Int), .int .i64 (c.frm : Int), .bool true] 62))
            have hasg := HT4.out.asg
            dsimp only at hasg
            have HASG := Aside0.mk hasg
            clear hasg hT af hf2 hr2 t0 t1 t2 t3 hbk hpop
            go_wp2_with (first
              | (go_at_call 28; refine HPR.out.mono ?_; rintro e w6 ⟨st6, r6, ow6, rfl, hpe, hf6, hr6⟩; have HX6 := Aside0.mk (And.intro hpe (And.intro hf6 hr6)); clear hpe hf6 hr6)
              | (go_at_call 31; refine HASG.out.mono ?_; rintro e w5 ⟨rfl, hx5⟩; obtain ⟨ow5, hf5, hr5⟩ := hx5; have HF5 := Aside0.mk hf5; have HPR := Aside0.mk (HT4.out.prop hr5); clear hf5 hr5))
            all_goals
              go_roundg (rounds n (((⟨(-c.lit), c.trail, c.frm, true⟩ : Ch)) :: init.reverse) r6)
              case measure => exact HT.out.hgk r6
              case rel => exact ⟨made, r6, c.frm, rfl, rfl, rfl, ⟨HT4.out.fin HF5.out HX6.out.1 HX6.out.2.1 HX6.out.2.2⟩⟩
          · go_wp2
            go_roundw
            case rel => exact ⟨init, by rw [← HLN.out] at hpop ⊢; exact ⟨hpop.out HSC.out⟩, trivial⟩
            case measure => simp [lenOf]
    · obtain ⟨A, cp, hv5⟩ := hL.row.slice
      subst hv5
      have hY := hL.rs.yes rfl
      have HLX := Aside0.mk hL
      have HFR := Aside0.mk (free29 hL.rep hL.rs.rb.tr hL.rs.rb.wa ⟨hL.rs.rb.n, hL.rs.rb.m⟩ hY.2.2.2.2)
      clear hL hY
      go_wp2_with fail
      go_at_call 29
      refine HFR.out.mono ?_
      rintro e w2 ⟨hb2, hfp⟩
      rcases hfp with ⟨rfl, hho⟩ | ⟨i, c, rfl, hfi, hci, hhc, hho⟩
      · have HX := Aside0.mk (And.intro hb2 hho)
        clear hb2 hho
        go_wp2
        go_ret
        exact ⟨1, st1, ow1, rfl, HLX.out.rep.below HX.out.1, HLX.out.fr.later ⟨HX.out.1.os, HX.out.1.tape, HX.out.1.output, HX.out.1.size, fun k hk => HX.out.1.block k (Nat.lt_of_lt_of_le hk HLX.out.fr.size)⟩, HLX.out.hn, HLX.out.rs.rb.tr, .inl ⟨rfl, HLX.out.rs.sat HX.out.2⟩⟩
      · obtain ⟨hrd, hp1, hp2⟩ := HLX.out.rs.push hfi hci hhc hho
        have hmf0 : 0 < mf := by rw [← HLX.out.hmf]; have := lt_of hci; omega
        have hi16 : i < 5864062014804 := by have := lt_of hci; have := HLX.out.rs.rb.m; omega
        obtain ⟨vf, vi, vv, vs, vt, fs, is, hrp⟩ := HLX.out.rep
        obtain ⟨At, ctt, rfl⟩ := Kd.R_slice hrp.t
        have c5 := cell_later hb2 (cells51 hrp).2.2.2.2.2.1
        have hlm : lm.length ≤ 65536 := by
          have h1 := hrd.lv.len
          have h2 := hrd.rb.tr.len
          have h3 := hrd.rb.n
          rw [List.length_reverse] at h1
          omega
        have hfo : firstOpen st1 c ≤ 65536 := by have := hrd.rb.n; omega
        obtain ⟨fo, hfo'⟩ : ∃ k, firstOpen st1 c = k := ⟨_, rfl⟩
        obtain ⟨nt, hnt⟩ : ∃ k, st1.trail.length = k := ⟨_, rfl⟩
        rw [hfo'] at hrd hp1 hp2 hfo ⊢
        rw [hnt] at hrd c5
        have HRD := Aside0.mk hrd
        have HB2 := Aside0.mk hb2
        have hbase2 : w.heap.size ≤ w2.heap.size := Nat.le_trans HLX.out.fr.size hb2.size
        have hfo0 : ((fo : Int) == 0) = false := by
          have : (fo : Int) ≠ 0 := by omega
          simpa using this
        have hrow2 : ChRow w2 w.heap.size (.slice A lm.length cp) lm := HLX.out.row.move (fun k hk => hb2.block k (HLX.out.row.lt hk))
        have HROW := Aside0.mk hrow2
        obtain ⟨made', hmd⟩ : ∃ x : Int, IntKind.i64.wrap (made + 1) = x := ⟨_, rfl⟩
        have hmd2 : wrap64 (made + 1) = made' := by rw [← i64_w]; exact hmd
        have HCNT : Aside0 (budget < 1099511627776 → ∃ m : Nat, made = (m : Int) ∧ made' = ((m + 1 : Nat) : Int) ∧ (m : Int) ≤ budget ∧ m + 1 ≤ A1 n) := ⟨fun hb => by
          obtain ⟨m, h1, h2, h3⟩ := HLX.out.cnt hb
          have hl : lm.reverse.length < n := by
            have h4 := (hrd.rb.tr.assign hrd.ok hrd.open_).len
            have h5 := hrd.lv.len
            have h6 : (st1.trail ++ [-((fo : Nat) : Int)]).length ≤ st1.n := h4
            rw [List.length_append, List.length_singleton] at h6
            rw [← HLX.out.hn]; omega
          have h7 := left_push (c := ⟨-((fo : Nat) : Int), nt, i, false⟩) hl rfl true
          refine ⟨m, h1, ?_, h2, by omega⟩
          rw [← hmd, h1, show ((m : Int) + 1) = ((m + 1 : Nat) : Int) by omega]
          exact IntWalk.i64_in _ (by omega)⟩
        have hwn : IntKind.i64.wrap (-(fo : Int)) = -(fo : Int) := wrap_neg (by omega) (by omega)
        clear hrd hrp hfi hci hhc hho hb2 hfo' hnt hrow2 hp2
        by_cases hgt : budget < made'
        · by_cases hbu : budget < 1099511627776
          · go_wp2
            go_ret
            obtain ⟨m, h1, h2, h3, h4⟩ := HCNT.out hbu
            exact ⟨3, st1, ow1, rfl, HLX.out.rep.below HB2.out, HLX.out.fr.later ⟨HB2.out.os, HB2.out.tape, HB2.out.output, HB2.out.size, fun k hk => HB2.out.block k (Nat.lt_of_lt_of_le hk HLX.out.fr.size)⟩, HLX.out.hn, HLX.out.rs.rb.tr, .inr (.inr ⟨rfl, hbu, by omega, hmf0⟩)⟩
          · have HM : Aside0 (budget < 1099511627776 → ∀ m : Nat, made = (m : Int) → made' = ((m + 1 : Nat) : Int) ∧ ((m + 1 : Nat) : Int) ≤ budget) := ⟨fun hb => absurd hb hbu⟩
            have hgt2 : decide (budget < made') = true := decide_eq_true hgt
            obtain ⟨m, hm⟩ : ∃ m, lm.length = m := ⟨_, rfl⟩
            have HLN := Aside0.mk hm
            have hm1 : IntKind.i64.wrap (((m + 1 : Nat) : Int) - 1) = (m : Int) := by rw [show (((m + 1 : Nat) : Int) - 1) = (m : Int) by omega]; exact IntWalk.i64_in _ (by omega)
            have HROW2 := HROW.out
            have HLX2 := HLX.out
            rw [hm] at HROW2 hlm
            have HRW := Aside0.mk HROW2
            rw [hm]
            clear hm HROW2 HLX2
            go_wp2_with (first
              | (go_at_call 28; refine HPR.out.mono ?_; rintro e w6 ⟨st6, r6, ow6, rfl, hpe, hf6, hr6⟩; have HX6 := Aside0.mk (And.intro hpe (And.intro hf6 hr6)); clear hpe hf6 hr6)
              | (go_at_call 31; refine HASG.out.mono ?_; rintro e w5 ⟨rfl, hx5⟩; obtain ⟨ow5, hf5, hr5⟩ := hx5; have HF5 := Aside0.mk hf5; have HPR := Aside0.mk (HT4.out.prop hr5); clear hf5 hr5)
              | (at_builtin; refine ch_append rfl (.tmp 31) (.tmp 41) rfl (.slice A m cp) lm ⟨-((fo : Nat) : Int), nt, i, false⟩ rfl rfl HRW.out hbase2 (by rw [HLN.out]; omega) ?_; go_loud (intro v3 w3 hrow3 hg3 hat3; have HT := Aside0.mk (HLX.out.push HB2.out HRD.out rfl hrow3 (by rw [HLN.out]; exact hg3) (by rw [HLN.out]; exact hat3) HM.out); clear hrow3 hg3 hat3; obtain ⟨g, cap, cur, hv3, hgb, hgh, t0, t1, t2, t3, hcap, _⟩ := HT.out.row.last; rw [HLN.out] at hv3 t0 t1 t2 t3 hcap; clear hgb hgh; subst hv3; dsimp only at t0 t1 t2 t3; have HT4 := Aside0.mk (HT.out.alloc (.cells #[.int .i64 (-((fo : Nat) : Int)), .int .i64 (nt : Int), .int .i64 (i : Int), .bool false] 62)); have hasg := HT4.out.asg; dsimp only at hasg; have HASG := Aside0.mk hasg; clear hasg)))
            all_goals
              go_roundg (rounds n (((⟨(-((fo : Nat) : Int)), nt, i, false⟩ : Ch)) :: lm.reverse) r6)
              case measure => exact HT.out.hgk r6
              case rel => exact ⟨made', r6, i, rfl, rfl, rfl, ⟨HT4.out.fin HF5.out HX6.out.1 HX6.out.2.1 HX6.out.2.2⟩⟩
        · have HM : Aside0 (budget < 1099511627776 → ∀ m : Nat, made = (m : Int) → made' = ((m + 1 : Nat) : Int) ∧ ((m + 1 : Nat) : Int) ≤ budget) := ⟨fun hb m hm => by
            obtain ⟨m', h1, h2, h3, h4⟩ := HCNT.out hb
            have : m = m' := by omega
            subst this
            exact ⟨h2, by omega⟩⟩
          have hgt2 : decide (budget < made') = false := decide_eq_false hgt
          obtain ⟨m, hm⟩ : ∃ m, lm.length = m := ⟨_, rfl⟩
          have HLN := Aside0.mk hm
          have hm1 : IntKind.i64.wrap (((m + 1 : Nat) : Int) - 1) = (m : Int) := by rw [show (((m + 1 : Nat) : Int) - 1) = (m : Int) by omega]; exact IntWalk.i64_in _ (by omega)
          have HROW2 := HROW.out
          have HLX2 := HLX.out
          rw [hm] at HROW2 hlm
          have HRW := Aside0.mk HROW2
          rw [hm]
          clear hm HROW2 HLX2
          go_wp2_with (first
            | (go_at_call 28; refine HPR.out.mono ?_; rintro e w6 ⟨st6, r6, ow6, rfl, hpe, hf6, hr6⟩; have HX6 := Aside0.mk (And.intro hpe (And.intro hf6 hr6)); clear hpe hf6 hr6)
            | (go_at_call 31; refine HASG.out.mono ?_; rintro e w5 ⟨rfl, hx5⟩; obtain ⟨ow5, hf5, hr5⟩ := hx5; have HF5 := Aside0.mk hf5; have HPR := Aside0.mk (HT4.out.prop hr5); clear hf5 hr5)
            | (at_builtin; refine ch_append rfl (.tmp 31) (.tmp 41) rfl (.slice A m cp) lm ⟨-((fo : Nat) : Int), nt, i, false⟩ rfl rfl HRW.out hbase2 (by rw [HLN.out]; omega) ?_; go_loud (intro v3 w3 hrow3 hg3 hat3; have HT := Aside0.mk (HLX.out.push HB2.out HRD.out rfl hrow3 (by rw [HLN.out]; exact hg3) (by rw [HLN.out]; exact hat3) HM.out); clear hrow3 hg3 hat3; obtain ⟨g, cap, cur, hv3, hgb, hgh, t0, t1, t2, t3, hcap, _⟩ := HT.out.row.last; rw [HLN.out] at hv3 t0 t1 t2 t3 hcap; clear hgb hgh; subst hv3; dsimp only at t0 t1 t2 t3; have HT4 := Aside0.mk (HT.out.alloc (.cells #[.int .i64 (-((fo : Nat) : Int)), .int .i64 (nt : Int), .int .i64 (i : Int), .bool false] 62)); have hasg := HT4.out.asg; dsimp only at hasg; have HASG := Aside0.mk hasg; clear hasg)))
          all_goals
            go_roundg (rounds n (((⟨(-((fo : Nat) : Int)), nt, i, false⟩ : Ch)) :: lm.reverse) r6)
            case measure => exact HT.out.hgk r6
            case rel => exact ⟨made', r6, i, rfl, rfl, rfl, ⟨HT4.out.fin HF5.out HX6.out.1 HX6.out.2.1 HX6.out.2.2⟩⟩
end Go.Proofs.Ytnhpfdnhnocgjaa.S
/- count: walked over the relation. -/
namespace Go.Proofs.Ytnhpfdnhnocgjaa.S
open Go.RowKit Go.Proofs.Ytnhpfdnhnocgjaa.D Go.Proofs.YtnhpfdnhnocgjaaW.PrintWords Go.Proofs.YtnhpfdnhnocgjaaW.PrintLast Go.Proofs.YtnhpfdnhnocgjaaW.PrintMore
set_option linter.unusedVariables false
set_option linter.unusedSimpArgs false
attribute [local go_sem] max2_int min2_int max_two min_two
def minI (a b : Int) : Int := if b < a then b else a
def CountP (w : World) (ow : Nat → Option Role) (B : Nat) (st : St) (most : Int) (e : Ending) (w' : World) : Prop := ∃ st' ow', e = .returned (.int .i64 (minI (cnt st.n st.f st.trail : Int) most)) ∧ CE st st' ∧ Fr ow ow' w w' ∧ Rep w' ow' B st'
/-- The two sides, and how many of them were counted. -/
def side (fo j : Nat) : Int := if j = 0 then -(fo : Int) else (fo : Int)
def part (st : St) (fo j : Nat) : Nat := if j = 0 then 0 else if j = 1 then cnt st.n st.f (st.trail ++ [-(fo : Int)]) else cnt st.n st.f st.trail
theorem part_succ (st : St) {fo j : Nat} (hj : j < 2) (h0 : 0 < fo) : part st fo (j + 1) = part st fo j + cnt st.n st.f (st.trail ++ [side fo j]) := by
  have hs := cnt_split st.n st.f st.trail (x := -(fo : Int)) (by omega)
  rw [Int.neg_neg] at hs
  match j, hj with
  | 0, _ => unfold part side; simp
  | 1, _ =>
    unfold part side
    rw [if_neg (by decide), if_neg (by decide), if_neg (by decide), if_pos rfl, if_neg (by decide)]
    exact hs
structure LC (w : World) (ow : Nat → Option Role) (B : Nat) (st : St) (i : Nat) (most : Int) (fo gl j : Nat) (sum : Int) (wr : World) (st1 : St) (ow1 : Nat → Option Role) : Prop where
  rep : Rep wr ow1 B st1
  ce : CE st st1
  cs : CS st1 i
  fr : Fr ow ow1 w wr
  own : ow1 gl = none
  row : wr.heap[gl]? = some (.cells #[.int .i64 (-(fo : Int)), .int .i64 (fo : Int)] 3 (0, 0))
  sum : sum = minI (part st fo j : Int) most
  opn : st1.known (fo : Int) = false
  fo0 : 0 < fo
  fon : fo ≤ st1.n
def LoopC (w : World) (ow : Nat → Option Role) (B : Nat) (st : St) (i : Nat) (most : Int) (fo gl j : Nat) (sum : Int) (wr : World) : Prop := ∃ st1 ow1, LC w ow B st i most fo gl j sum wr st1 ow1
section
variable {w wr : World} {ow ow1 : Nat → Option Role} {B : Nat} {st st1 : St} {i : Nat} {most : Int} {fo gl j : Nat} {sum : Int}
theorem side_ok (h : LC w ow B st i most fo gl j sum wr st1 ow1) : okL st1.n (side fo j) ∧ st1.known (side fo j) = false := by
  have h1 := h.fo0
  have h2 := h.fon
  unfold side
  split
  · refine ⟨⟨by omega, by omega⟩, ?_⟩
    rw [← h.opn]
    unfold St.known
    rw [Int.natAbs_neg]
  · exact ⟨⟨by omega, by omega⟩, h.opn⟩
theorem LC.cell (h : LC w ow B st i most fo gl j sum wr st1 ow1) (hj : j < 2) : wr.cell? ⟨gl, j, none⟩ = some (.int .i64 (side fo j)) := by
  rw [blk_cell h.row]
  match j, hj with
  | 0, _ => rfl
  | 1, _ => rfl
theorem LC.asg (h : LC w ow B st i most fo gl j sum wr st1 ow1) : Calls Try.prog 31 #[.pointer (some ⟨B, 0, none⟩), .int .i64 (side fo j)] wr fun e w' => e = .returned (.tuple #[]) ∧ ∃ ow', Fr ow1 ow' wr w' ∧ Rep w' ow' B (st1.assign (side fo j)) := by
  obtain ⟨vf, vi, vv, vs, vt, fs, is, hr⟩ := h.rep
  have hl := h.cs.tr.len
  have hn := h.cs.n
  refine (assign31 hr h.cs.tr (by omega) (by omega) (side_ok h).1).mono ?_
  rintro e w' ⟨he, ow', vt', hf, hr'⟩
  exact ⟨he, ow', hf, _, _, _, _, _, _, _, hr'⟩
theorem LC.prop (h : LC w ow B st i most fo gl j sum wr st1 ow1) {w1 : World} {ow2 : Nat → Option Role} (hr : Rep w1 ow2 B (st1.assign (side fo j))) : Calls Try.prog 28 #[.pointer (some ⟨B, 0, none⟩)] w1 (PropP w1 ow2 B (st1.assign (side fo j))) := by
  refine propagate28 hr (h.cs.tr.assign (side_ok h).1 (side_ok h).2) ⟨h.cs.wa.cl, h.cs.wa.hi, h.cs.wa.nd, h.cs.wa.mem⟩ ⟨by have := h.cs.n; show st1.n ≤ _; omega, h.cs.m⟩ ?_
  show st1.head ≤ (st1.trail ++ [side fo j]).length
  rw [h.cs.head, List.length_append]; omega
/-- A side is done. -/
theorem LC.step (h : LC w ow B st i most fo gl j sum wr st1 ow1) (hj : j < 2) {r : Bool} {st2 st3 : St} {w2 : World} {ow2 : Nat → Option Role} (hp : PE (st1.assign (side fo j)) st2 r) (h3 : st3 = st2 ∨ CE st2 st3) (hf : Fr ow1 ow2 wr w2) (hr : Rep w2 ow2 B (st3.back st1.trail.length)) {sum' : Int}
    (hs : sum' = minI ((part st fo j : Int) + (cnt st1.n st1.f (st1.trail ++ [side fo j]) : Int)) most) : LoopC w ow B st i most fo gl (j + 1) sum' w2 := by
  have hsp := side_ok h
  obtain ⟨_, _, h5⟩ := h.cs.assign hsp.1 hsp.2 hp
  obtain ⟨hce, hle⟩ := h5 st3 h3
  have hgl : gl < wr.heap.size := blk_lt h.row
  refine ⟨_, ow2, hr, h.ce.trans hce, hce.cs h.cs, h.fr.trans hf, (hf.own gl hgl).trans h.own, (hf.heap gl hgl h.own).trans h.row, ?_, ?_, h.fo0, by rw [hce.n]; exact h.fon⟩
  · rw [hs, part_succ st hj h.fo0, ← h.ce.cnt, ← h.ce.trail, ← h.ce.n]
    congr 1
  · cases hk : (st3.back st1.trail.length).known (fo : Int) with
    | false => rfl
    | true =>
      rcases (known_iff hce.tr _).1 hk with hm | hm
      · rw [hce.trail] at hm
        have := h.opn
        rw [(known_iff h.cs.tr _).2 (.inl hm)] at this
        cases this
      · rw [hce.trail] at hm
        have := h.opn
        rw [(known_iff h.cs.tr _).2 (.inr hm)] at this
        cases this
end
set_option maxRecDepth 100000 in
set_option maxHeartbeats 8000000 in
theorem count22 : ∀ (k : Nat) {w : World} {ow : Nat → Option Role} {B : Nat} {st : St} {frm : Nat} (hk : st.n - st.trail.length = k) (hR : Rep w ow B st) (hS : CS st frm) {most : Int} (h0 : 0 ≤ most) (h1 : most ≤ 9223372036854775807),
    Calls Try.prog 22 #[.pointer (some ⟨B, 0, none⟩), .int .i64 most, .int .i64 (frm : Int)] w (CountP w ow B st most) := by
  intro k
  induction k using Nat.strongRecOn with
  | _ k ih =>
    intro w ow B st frm hk hR hS most h0 h1
    have HIH := Aside0.mk ih
    have HS := Aside0.mk (And.intro hS (And.intro hk hR))
    have HFR := Aside0.mk (free29 hR hS.tr hS.wa ⟨by have := hS.n; omega, hS.m⟩ hS.frm)
    obtain ⟨vf, vi, vv, vs, vt, fs, is, hrp⟩ := hR
    obtain ⟨At, ct, rfl⟩ := Kd.R_slice hrp.t
    have HRP := Aside0.mk hrp
    clear ih hk hS hrp
    go_enter Try.func22, Try.ntmps22
    go_wp2_with fail
    go_at_call 29
    refine HFR.out.mono ?_
    rintro e w2 ⟨hb2, hfp⟩
    have c0 := (cells51 (HRP.out.below hb2)).1
    have c5 := (cells51 (HRP.out.below hb2)).2.2.2.2.2.1
    have hn24 := HS.out.1.n
    have hlen := HS.out.1.tr.len
    rcases hfp with ⟨rfl, hho⟩ | ⟨i, c, rfl, hfi, hci, hhc, hho⟩
    · have hall := HS.out.1.all hho
      obtain ⟨n, hn⟩ : ∃ n, st.n = n := ⟨_, rfl⟩
      obtain ⟨nt, hnt⟩ : ∃ n, st.trail.length = n := ⟨_, rfl⟩
      rw [hn] at c0 hn24 hlen
      rw [hn, hnt] at hall
      rw [hnt] at c5 hlen
      have hw1 : IntKind.i64.wrap ((n : Int) - (nt : Int)) = (n : Int) - (nt : Int) := IntWalk.i64_in _ (by omega)
      have hw2 : wrap64 ((2 : Int) ^ (n - nt)) = ((2 ^ (n - nt) : Nat) : Int) := by
        have hp : 2 ^ (n - nt) ≤ 2 ^ 24 := Nat.pow_le_pow_right (by decide) (by omega)
        have e : ((2 : Int) ^ (n - nt)) = ((2 ^ (n - nt) : Nat) : Int) := by rw [Int.natCast_pow]; rfl
        rw [e, ← i64_w]
        exact IntWalk.i64_in _ (by omega)
      have HX := Aside0.mk (And.intro hb2 (And.intro hall (And.intro hn (And.intro hnt hw2))))
      clear hb2 hho hall hn hnt hw2
      go_wp2
      go_quiet (fail)
      obtain ⟨rr, hrr⟩ : ∃ r, (if most < wrap64 ((2 : Int) ^ (n - nt)) then most else wrap64 ((2 : Int) ^ (n - nt))) = r := ⟨_, rfl⟩
      rw [hrr]
      have HRR := Aside0.mk hrr
      clear hrr
      go_wp2
      go_ret
      refine ⟨st, ow, ?_, CE.refl HS.out.1, Fr.of_below (HX.out.1.trans ((bd_drewN w2 _).mono HX.out.1.size)), HS.out.2.2.below (HX.out.1.trans ((bd_drewN w2 _).mono HX.out.1.size))⟩
      rw [HX.out.2.2.1, HX.out.2.1, ← HX.out.2.2.2.2]
      exact congrArg (fun x => Ending.returned (Value.int .i64 x)) HRR.out.symm
    · obtain ⟨p1, p2, p3⟩ := firstOpen_pos HS.out.1.tr HS.out.1.wa HS.out.1.wat (List.mem_of_getElem? hci) hhc
      have hi16 : i < 5864062014804 := by have := lt_of hci; have := HS.out.1.m; omega
      have hcs := HS.out.1.next hfi (Nat.le_of_lt (lt_of hci)) hho
      obtain ⟨fo, hfo⟩ : ∃ k, firstOpen st c = k := ⟨_, rfl⟩
      rw [hfo] at p1 p2 p3 ⊢
      obtain ⟨nt, hnt⟩ : ∃ n, st.trail.length = n := ⟨_, rfl⟩
      rw [hnt] at c5
      have hfo0 : ((fo : Int) == 0) = false := by
        have : (fo : Int) ≠ 0 := by omega
        simpa using this
      have hwn : IntKind.i64.wrap (-(fo : Int)) = -(fo : Int) := wrap_neg (by omega) (by omega)
      have HX := Aside0.mk (And.intro hb2 (And.intro hcs (And.intro p1 (And.intro p2 (And.intro p3 hnt)))))
      clear hb2 hcs hfi hci hhc hho hfo hnt p1 p2 p3
      go_wp2
      go_quiet (fail)
      have hb3 := HX.out.1.trans ((bd_drewN w2 nq).mono HX.out.1.size)
      obtain ⟨w3, hw3⟩ : ∃ w3, w2.drewN nq = w3 := ⟨_, rfl⟩
      rw [hw3] at hb3 ⊢
      have hb4 := below_alloc hb3 (.cells #[.int .i64 (-(fo : Int)), .int .i64 (fo : Int)] 3)
      have HL0 : Aside0 (LoopC w ow B st i most fo w3.heap.size 0 0 (w3.alloc (.cells #[.int .i64 (-(fo : Int)), .int .i64 (fo : Int)] 3))) := ⟨st, ow, HS.out.2.2.below hb4, CE.refl HS.out.1, HX.out.2.1, Fr.of_below hb4, (HS.out.2.2.below hb3).top _ (Nat.le_refl _), blk_new w3 _, by unfold part minI; simp; omega, HX.out.2.2.2.2.1, HX.out.2.2.1, HX.out.2.2.2.1⟩
      clear hw3 hb3 hb4 c0 c5
      go_wp2
      obtain ⟨gl, hgl⟩ : ∃ g, w3.heap.size = g := ⟨_, rfl⟩
      obtain ⟨w4, hw4⟩ : ∃ w4, w3.alloc (.cells #[.int .i64 (-(fo : Int)), .int .i64 (fo : Int)] 3) = w4 := ⟨_, rfl⟩
      rw [hw4, hgl] at HL0
      rw [hw4, hgl]
      clear hw4 hgl
      go_loopw [9, 44] (fun v9 v44 wr => ∃ (j : Nat) (sum : Int), v44 = .int .i64 (j : Int) ∧ v9 = .int .i64 sum ∧ j ≤ 2 ∧ Aside0 (LoopC w ow B st i most fo gl j sum wr)) (fun _ v44 _ => 2 - (intOf v44).toNat)
      case atStart => exact ⟨0, 0, rfl, rfl, by omega, HL0⟩
      case round =>
        obtain ⟨j, sum, rfl, rfl, hj2, HL⟩ := hrel
        obtain ⟨st1, ow1, hL⟩ := HL.out
        by_cases hj : j < 2
        · have x1 := hL.cell hj
          have HASG := Aside0.mk hL.asg
          have hnt1 : st1.trail.length = nt := by rw [hL.ce.trail]; exact HX.out.2.2.2.2.2
          have HLX := Aside0.mk (And.intro hL hnt1)
          have hsm : 0 ≤ sum ∧ sum ≤ most := by
            rw [hL.sum]
            unfold minI
            split <;> omega
          obtain ⟨v, hv⟩ : ∃ v, side fo j = v := ⟨_, rfl⟩
          have HV := Aside0.mk hv
          rw [hv] at x1 HASG
          have q1 : decide ((j : Int) < 2) = true := decide_eq_true (by omega)
          have q2 : decide (j < 2) = true := decide_eq_true hj
          have q3 : (0 : Int) ≤ (j : Int) := by omega
          have q4 : (j : Int) < 2 := by omega
          clear hL hnt1 hv
          go_wp2_with fail
          go_at_call 31
          refine HASG.out.mono ?_
          rintro e w5 ⟨rfl, ow5, hf5, hr5⟩
          rw [← HV.out] at hr5
          have HPR := Aside0.mk (HLX.out.1.prop hr5)
          have HF5 := Aside0.mk hf5
          clear hf5 hr5
          go_wp2_with fail
          go_at_call 28
          refine HPR.out.mono ?_
          rintro e w6 ⟨st6, r6, ow6, rfl, hpe, hf6, hr6⟩
          have hsp := side_ok HLX.out.1
          obtain ⟨g1, g2, g3⟩ := HLX.out.1.cs.assign hsp.1 hsp.2 hpe
          have HX6 := Aside0.mk (And.intro hpe (And.intro hf6 hr6))
          have HG := Aside0.mk (And.intro g1 (And.intro g2 g3))
          clear hpe hf6 hr6 hsp g1 g2 g3
          have hcnt : cnt st1.n st1.f (st1.trail ++ [side fo j]) ≤ 16777216 := by
            have h1 : cnt st1.n st1.f (st1.trail ++ [side fo j]) ≤ 2 ^ st1.n := by
              unfold cnt
              exact Nat.le_trans List.countP_le_length (by rw [List.length_range]; exact Nat.le_refl _)
            have h2 : 2 ^ st1.n ≤ 2 ^ 24 := Nat.pow_le_pow_right (by decide) HLX.out.1.cs.n
            omega
          obtain ⟨cv, hcv⟩ : ∃ k, cnt st1.n st1.f (st1.trail ++ [side fo j]) = k := ⟨_, rfl⟩
          rw [hcv] at hcnt
          have HCV := Aside0.mk hcv
          clear hcv
          cases r6 with
          | false =>
            have hc0 := HG.out.2.1 rfl
            rw [HCV.out] at hc0
            have hbk := back30 HX6.out.2.2 HX6.out.1.tr (by rw [HX6.out.1.n]; have := HLX.out.1.cs.n; show st1.n ≤ _; omega) (HG.out.2.2 st6 (.inl rfl)).2
            rw [HLX.out.2] at hbk
            have HBK := Aside0.mk hbk
            clear hbk
            go_wp2_with (go_at_call 30; refine HBK.out.mono ?_; rintro e w8 ⟨rfl, hb8⟩; have HB8 := Aside0.mk hb8; clear hb8)
            go_roundw
            case rel =>
              obtain ⟨ow8, hf8, hr8⟩ := HB8.out
              refine ⟨j + 1, sum, by go_num, rfl, by omega, ⟨HLX.out.1.step hj HX6.out.1 (.inl rfl) ((HF5.out.trans HX6.out.2.1).trans hf8) (by rw [HLX.out.2]; exact hr8) ?_⟩⟩
              rw [HCV.out, hc0, HLX.out.1.sum]
              simp
            case measure => simp [intOf]; omega
          | true =>
            by_cases hlt : sum < most
            · obtain ⟨hcs6, hcnt6⟩ := HG.out.1 rfl
              have hk6 : st6.n - st6.trail.length < k := by
                obtain ⟨u, hu⟩ := HX6.out.1.new
                have h1 : st6.trail.length = (st1.trail ++ [side fo j]).length + u.length := by rw [hu, List.length_append]; rfl
                rw [List.length_append, List.length_singleton, HLX.out.1.ce.trail] at h1
                have h2 : st6.n = st.n := HX6.out.1.n.trans HLX.out.1.ce.n
                have h3 := HS.out.2.1
                have h4 := hcs6.tr.len
                omega
              have hrec := HIH.out _ hk6 rfl HX6.out.2.2 hcs6 (most := most - sum) (by omega) (by omega)
              have HRC := Aside0.mk hrec
              have hw9 : IntKind.i64.wrap (most - sum) = most - sum := IntWalk.i64_in _ (by omega)
              clear hrec hk6 hcs6
              go_wp2_with fail
              go_at_call 22
              refine HRC.out.mono ?_
              rintro e w7 ⟨st7, ow7, rfl, hce7, hf7, hr7⟩
              have hc7 : cnt st6.n st6.f st6.trail = cv := by
                rw [show st6.n = st1.n from HX6.out.1.n, hcnt6, HCV.out]
              rw [hc7]
              have hbk := back30 hr7 hce7.tr (by rw [hce7.n, HX6.out.1.n]; have := HLX.out.1.cs.n; show st1.n ≤ _; omega) (HG.out.2.2 st7 (.inr hce7)).2
              rw [HLX.out.2] at hbk
              have HBK := Aside0.mk hbk
              have HX7 := Aside0.mk (And.intro hce7 (And.intro hf7 hr7))
              have hmn : minI (cv : Int) (most - sum) = (if most - sum < (cv : Int) then most - sum else (cv : Int)) := rfl
              obtain ⟨mv, hmv⟩ : ∃ m, minI (cv : Int) (most - sum) = m := ⟨_, rfl⟩
              have hmb : 0 ≤ mv ∧ mv ≤ most - sum := by
                rw [← hmv, hmn]
                split <;> omega
              have HMV := Aside0.mk hmv
              rw [hmv]
              have hw10 : IntKind.i64.wrap (sum + mv) = sum + mv := IntWalk.i64_in _ (by omega)
              clear hbk hce7 hf7 hr7 hmn hmv hc7 hcnt6
              go_wp2_with (go_at_call 30; refine HBK.out.mono ?_; rintro e w8 ⟨rfl, hb8⟩; have HB8 := Aside0.mk hb8; clear hb8)
              go_roundw
              case rel =>
                obtain ⟨ow8, hf8, hr8⟩ := HB8.out
                refine ⟨j + 1, sum + mv, by go_num, rfl, by omega, ⟨HLX.out.1.step hj HX6.out.1 (.inr HX7.out.1) (((HF5.out.trans HX6.out.2.1).trans HX7.out.2.1).trans hf8) (by rw [HLX.out.2]; exact hr8) ?_⟩⟩
                have hs1 := HLX.out.1.sum
                have hm1 := HMV.out
                rw [HCV.out]
                unfold minI at hs1 hm1 ⊢
                split at hs1 <;> split at hm1 <;> split <;> omega
              case measure => simp [intOf]; omega
            · have hbk := back30 HX6.out.2.2 HX6.out.1.tr (by rw [HX6.out.1.n]; have := HLX.out.1.cs.n; show st1.n ≤ _; omega) (HG.out.2.2 st6 (.inl rfl)).2
              rw [HLX.out.2] at hbk
              have HBK := Aside0.mk hbk
              clear hbk
              go_wp2_with (go_at_call 30; refine HBK.out.mono ?_; rintro e w8 ⟨rfl, hb8⟩; have HB8 := Aside0.mk hb8; clear hb8)
              go_roundw
              case rel =>
                obtain ⟨ow8, hf8, hr8⟩ := HB8.out
                refine ⟨j + 1, sum, by go_num, rfl, by omega, ⟨HLX.out.1.step hj HX6.out.1 (.inl rfl) ((HF5.out.trans HX6.out.2.1).trans hf8) (by rw [HLX.out.2]; exact hr8) ?_⟩⟩
                have hs1 := HLX.out.1.sum
                rw [HCV.out]
                unfold minI at hs1 ⊢
                split at hs1 <;> split <;> omega
              case measure => simp [intOf]; omega
        · have ej : j = 2 := by omega
          subst ej
          have HLX := Aside0.mk hL
          clear hL
          go_wp2
          go_ret
          refine ⟨st1, ow1, ?_, HLX.out.ce, HLX.out.fr, HLX.out.rep⟩
          exact congrArg (fun x => Ending.returned (Value.int .i64 x)) HLX.out.sum
end Go.Proofs.Ytnhpfdnhnocgjaa.S
