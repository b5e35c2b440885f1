/- Joined by a program of this session out of: HpA, HpB, HpC. -/
import Derived.Test.YtnhpfdnhnocgjaaPx2
import Derived.Test.YtnhpfdnhnocgjaaDpE
import Derived.Outline
import Derived.IntWalk
import Derived.WalkSpells
import Derived.RegionTactic
import Derived.ChangeAlike
/- The solver as it lies in memory: each row is a block with a role of its own. -/
namespace Go.Proofs.Ytnhpfdnhnocgjaa.S
open Go.RowKit Go.Proofs.Ytnhpfdnhnocgjaa.D Go.Proofs.YtnhpfdnhnocgjaaW.PrintWords Go.Proofs.YtnhpfdnhnocgjaaW.PrintLast Go.Proofs.YtnhpfdnhnocgjaaW.PrintMore
set_option linter.unusedVariables false
set_option linter.unusedSimpArgs false
/-- What a block is there for. -/
inductive Role where
  | box | f | inn | val | set | tr
  | cl (i : Nat)
  | li (k : Nat)
/-- A slice's word. -/
structure SL where
  a : Option Addr
  n : Nat
  c : Nat
def SL.v (s : SL) : Value := .slice s.a s.n s.c
def kSl : Kd SL := Kd.scalar SL.v (fun _ => rfl)
def ints (l : List Nat) : List Int := l.map fun i : Nat => (i : Int)
theorem ints_length (l : List Nat) : (ints l).length = l.length := by unfold ints; rw [List.length_map]
/-- A row of a role. -/
def OR {α : Type} (d : Kd α) (e : Nat) (w : World) (ow : Nat → Option Role) (r : Role) (v : Value) (xs : List α) : Prop := d.R e w 0 (fun k => ow k = some r) v xs
/-- A row of role r has been changed, or made anew. -/
structure Chg (ow ow1 : Nat → Option Role) (w w1 : World) (r : Role) : Prop where
  os : w1.os = w.os
  tape : w1.tape = w.tape
  output : w1.output = w.output
  size : w.heap.size ≤ w1.heap.size
  own : ∀ k, k < w.heap.size → ow1 k = ow k
  heap : ∀ k, k < w.heap.size → ow k ≠ some r → w1.heap[k]? = w.heap[k]?
  top : (∀ k, w.heap.size ≤ k → ow k = none) → ∀ k, w1.heap.size ≤ k → ow1 k = none
/-- What is none of the solver's is as it was. -/
structure Fr (ow ow1 : Nat → Option Role) (w w1 : World) : Prop where
  os : w1.os = w.os
  tape : w1.tape = w.tape
  output : w1.output = w.output
  size : w.heap.size ≤ w1.heap.size
  own : ∀ k, k < w.heap.size → ow1 k = ow k
  heap : ∀ k, k < w.heap.size → ow k = none → w1.heap[k]? = w.heap[k]?
  top : (∀ k, w.heap.size ≤ k → ow k = none) → ∀ k, w1.heap.size ≤ k → ow1 k = none
theorem Fr.refl (ow : Nat → Option Role) (w : World) : Fr ow ow w w := ⟨rfl, rfl, rfl, Nat.le_refl _, fun _ _ => rfl, fun _ _ _ => rfl, fun h => h⟩
theorem Fr.trans {o1 o2 o3 : Nat → Option Role} {a b c : World} (h : Fr o1 o2 a b) (k : Fr o2 o3 b c) : Fr o1 o3 a c :=
  ⟨k.os.trans h.os, k.tape.trans h.tape, k.output.trans h.output, Nat.le_trans h.size k.size, fun i hi => (k.own i (Nat.lt_of_lt_of_le hi h.size)).trans (h.own i hi),
    fun i hi ho => (k.heap i (Nat.lt_of_lt_of_le hi h.size) ((h.own i hi).trans ho)).trans (h.heap i hi ho), fun t => k.top (h.top t)⟩
theorem Chg.fr {ow ow1 : Nat → Option Role} {w w1 : World} {r : Role} (h : Chg ow ow1 w w1 r) : Fr ow ow1 w w1 :=
  ⟨h.os, h.tape, h.output, h.size, h.own, fun k hk ho => h.heap k hk (by rw [ho]; exact fun e => nomatch e), h.top⟩
theorem Fr.of_below {ow : Nat → Option Role} {w w1 : World} (h : Below w.heap.size w w1) : Fr ow ow w w1 := ⟨h.os, h.tape, h.output, h.size, fun _ _ => rfl, fun k hk _ => h.block k hk, fun t k hk => t k (Nat.le_trans h.size hk)⟩
theorem Fr.below {ow ow1 : Nat → Option Role} {w w1 : World} (h : Fr ow ow1 w w1) {B : Nat} (hB : B ≤ w.heap.size) (ho : ∀ k, k < B → ow k = none) : Below B w w1 :=
  ⟨h.os, h.tape, h.output, h.size, fun k hk => h.heap k (Nat.lt_of_lt_of_le hk hB) (ho k hk)⟩
theorem Chg.of_below {ow : Nat → Option Role} {w w1 : World} {r : Role} (h : Below w.heap.size w w1) : Chg ow ow w w1 r := ⟨h.os, h.tape, h.output, h.size, fun _ _ => rfl, fun k hk _ => h.block k hk, fun t k hk => t k (Nat.le_trans h.size hk)⟩
theorem Chg.trans {o1 o2 o3 : Nat → Option Role} {a b c : World} {r : Role} (h : Chg o1 o2 a b r) (k : Chg o2 o3 b c r) : Chg o1 o3 a c r :=
  ⟨k.os.trans h.os, k.tape.trans h.tape, k.output.trans h.output, Nat.le_trans h.size k.size, fun i hi => (k.own i (Nat.lt_of_lt_of_le hi h.size)).trans (h.own i hi),
    fun i hi ho => (k.heap i (Nat.lt_of_lt_of_le hi h.size) (by rw [h.own i hi]; exact ho)).trans (h.heap i hi ho), fun t => k.top (h.top t)⟩
/-- A store into a row of role r. -/
theorem Chg.set {ow : Nat → Option Role} {w : World} {r : Role} {g : Nat} (hg : ow g = some r) (j : Nat) (u : Value) : Chg ow ow w (w.setCell ⟨g, j, none⟩ u) r := by
  have hb : Below 0 w (w.setCell ⟨g, j, none⟩ u) := (Below.refl 0 w).setCell (Nat.zero_le _) u
  refine ⟨hb.os, hb.tape, hb.output, hb.size, fun _ _ => rfl, fun k hk ho => ?_, fun t k hk => t k (Nat.le_trans hb.size hk)⟩
  exact Below.heap_setCell w ⟨g, j, none⟩ u k (fun e => ho (by rw [show k = g from e]; exact hg))
section
variable {α : Type} {d : Kd α} {e : Nat} {w w1 : World} {ow ow1 : Nat → Option Role} {r r' : Role} {v : Value} {xs : List α}
theorem OR.move (h : OR d e w ow r v xs) (hm : ∀ k, k < w.heap.size → ow k = some r → w1.heap[k]? = w.heap[k]? ∧ ow1 k = some r) : OR d e w1 ow1 r v xs := by
  have h1 : d.R e w 0 (fun k => ow1 k = some r ∧ w1.heap[k]? = w.heap[k]?) v xs := Kd.R_mono (Kd.R_bound h) (fun k hk => ⟨(hm k hk.2.2.1 hk.1).2, (hm k hk.2.2.1 hk.1).1⟩)
  exact Kd.R_mono (Kd.R_move h1 (fun k hk => hk.2)) (fun k hk => hk.1)
theorem OR.chg (h : OR d e w ow r' v xs) (hc : Chg ow ow1 w w1 r) (hne : r' ≠ r) : OR d e w1 ow1 r' v xs :=
  h.move fun k hk ho => ⟨hc.heap k hk (by rw [ho]; exact fun e => hne (Option.some.inj e)), (hc.own k hk).trans ho⟩
theorem OR.below (h : OR d e w ow r v xs) (hb : Below w.heap.size w w1) : OR d e w1 ow r v xs := Kd.R_below h hb
theorem OR.block (h : OR d e w ow r v xs) {k : Nat} (hk : v.ownBlock = some k) : ow k = some r := h.1 k hk
theorem OR.lt (h : OR d e w ow r v xs) {k : Nat} (hk : v.ownBlock = some k) : k < w.heap.size := Kd.R_lt h k hk
theorem OR.form (h : OR d e w ow r v xs) (hp : 0 < xs.length) : ∃ g cap, v = .slice (some ⟨g, 0, none⟩) xs.length cap ∧ ow g = some r ∧ g < w.heap.size := by
  obtain ⟨g, cap, he, _, hl, _⟩ := Kd.R_form h hp
  exact ⟨g, cap, he, h.block (by rw [he]; rfl), hl⟩
/-- The owners, all new blocks given to a role. -/
def grow (ow : Nat → Option Role) (n m : Nat) (r : Role) : Nat → Option Role := fun k => if k < n then ow k else if k < m then some r else none
theorem OR.grow_of (n : Nat) (h : d.R e w 0 (fun k => ow k = some r ∨ n ≤ k) v xs) (ht : ∀ k, n ≤ k → ow k = none) : OR d e w (grow ow n w.heap.size r) r v xs :=
  Kd.R_mono (Kd.R_bound h) fun k hk => by
    show (if k < n then ow k else if k < w.heap.size then some r else none) = some r
    by_cases hl : k < n
    · rw [if_pos hl]
      rcases hk.1 with hk | hk
      · exact hk
      · omega
    · rw [if_neg hl, if_pos hk.2.2.1]
theorem Chg.grown {W : World} {row : Option Nat} (hg : W.grownBy w1 row) (hr : ∀ k, row = some k → ow k = some r) : Chg ow (grow ow W.heap.size w1.heap.size r) W w1 r :=
  ⟨hg.os, hg.tape, hg.output, hg.size, fun k hk => if_pos hk, fun k hk ho => hg.block k hk (fun e => ho (hr k e.symm)), fun t k hk => by
    show (if k < W.heap.size then ow k else if k < w1.heap.size then some r else none) = none
    rw [if_neg (by have := hg.size; omega), if_neg (by omega)]⟩
end
section
variable {ops : Array Oper} {rest : List Oper} {o : Oper} {a : Act} {Q : Exit → Act → World → Prop} {α : Type}
/-- append(v, x) to a row of a role: one cell an element. -/
theorem or_append {enc : α → Value} {h1 : ∀ x, (enc x).oneCell' = true} {e t bytes : Nat} {z : Value} (hgd : o.guard = none) (s x : Operand) (ho : o.op = .call { callee := .builtin .append, args := #[s, x], argTypes := #[t, t] })
    (ht : Try.prog.underlying t = some (.slice e)) (hinfo : (Try.prog.info? e).map (fun i => (i.zero, i.size, i.bytes)) = some (some z, 1, bytes)) (hz : z.cells.size = 1) (hb0 : 0 < bytes)
    {W : World} {ow : Nat → Option Role} {r : Role} (v : Value) (xs : List α) (p : α) (hs : a.eval s = v) (hx : a.eval x = .slice (some ⟨W.heap.size, 0, none⟩) 1 1)
    (HO : OR (Kd.scalar enc h1) e W ow r v xs) (hl : (xs.length + 1) * bytes ≤ 140737488355328)
    (htop : ∀ k, W.heap.size ≤ k → ow k = none)
    (h : ∀ v1 w1 ow1, OR (Kd.scalar enc h1) e w1 ow1 r v1 (xs ++ [p]) → Chg ow ow1 W w1 r → wpList Try.prog ops Q rest (a.put o.dst v1) w1) :
    wpList Try.prog ops Q (o :: rest) a (W.alloc (.cells #[enc p] e)) := by
  refine Kd.R_append (Kd.scalar enc h1) (w0 := W) 0 hgd s x t e z bytes ho ht hinfo hz (show 0 < 1 by decide) hb0 v xs p [enc p] (fun k => ow k = some r ∨ W.heap.size ≤ k) (fun _ => False) hs hx rfl (fun _ hk => hk.elim) (fun _ hk => .inr hk) (Kd.R_mono HO fun _ hk => .inl hk) (Below.refl _ _) (Nat.zero_le _) hl ?_
  intro v1 w1 hR _ hg _
  exact h v1 w1 _ (OR.grow_of _ hR htop) (Chg.grown hg fun k hk => HO.block hk)
end
section
variable {ops : Array Oper} {o : Oper} {a : Act} {Q : Exit → Act → World → Prop} {Kc : Act → World → Prop} {α : Type}
theorem or_append_step {enc : α → Value} {h1 : ∀ x, (enc x).oneCell' = true} {e t bytes : Nat} {z : Value} (hw : Region.wanted o (yielded ops a.tmps) = true) (s x : Operand) (ho : o.op = .call { callee := .builtin .append, args := #[s, x], argTypes := #[t, t] })
    (ht : Try.prog.underlying t = some (.slice e)) (hinfo : (Try.prog.info? e).map (fun i => (i.zero, i.size, i.bytes)) = some (some z, 1, bytes)) (hz : z.cells.size = 1) (hb0 : 0 < bytes)
    {W : World} {ow : Nat → Option Role} {r : Role} (v : Value) (xs : List α) (p : α) (hs : a.eval s = v) (hx : a.eval x = .slice (some ⟨W.heap.size, 0, none⟩) 1 1)
    (HO : OR (Kd.scalar enc h1) e W ow r v xs) (hl : (xs.length + 1) * bytes ≤ 140737488355328)
    (htop : ∀ k, W.heap.size ≤ k → ow k = none)
    (h : ∀ v1 w1 ow1, OR (Kd.scalar enc h1) e w1 ow1 r v1 (xs ++ [p]) → Chg ow ow1 W w1 r → Kc (a.put o.dst v1) w1) :
    if Region.wanted o (yielded ops a.tmps) = true then Oper.wp Try.prog o a (W.alloc (.cells #[enc p] e)) Kc Q else Kc (a.put o.dst undef) (W.alloc (.cells #[enc p] e)) := by
  refine Kd.R_append_step (Kd.scalar enc h1) (w0 := W) 0 hw s x t e z bytes ho ht hinfo hz (show 0 < 1 by decide) hb0 v xs p [enc p] (fun k => ow k = some r ∨ W.heap.size ≤ k) (fun _ => False) hs hx rfl (fun _ hk => hk.elim) (fun _ hk => .inr hk) (Kd.R_mono HO fun _ hk => .inl hk) (Below.refl _ _) (Nat.zero_le _) hl ?_
  intro v1 w1 hR _ hg _
  exact h v1 w1 _ (OR.grow_of _ hR htop) (Chg.grown hg fun k hk => HO.block hk)
end
/-! ### the solver -/
theorem bd_drew (w : World) : Below w.heap.size w w.drew := below_drew (Below.refl _ _)
theorem bd_drewN (w : World) (n : Nat) : Below w.heap.size w (w.drewN n) := pw_below_drewN (Below.refl _ _) n
def boxOf (n : Nat) (vf vi vv vs vt : Value) (head : Nat) : Array Value := #[.int .i64 (n : Int), vf, vi, vv, vs, vt, .int .i64 (head : Int), .int .i64 0]
structure Rp (w : World) (ow : Nat → Option Role) (B : Nat) (st : St) (vf vi vv vs vt : Value) (fs is : List SL) : Prop where
  box : w.heap[B]? = some (.cells (boxOf st.n vf vi vv vs vt st.head) 51 (0, 0))
  bo : ow B = some .box
  f : OR kSl 37 w ow .f vf fs
  i : OR kSl 37 w ow .inn vi is
  v : OR Kd.bool 4 w ow .val vv st.val
  s : OR Kd.bool 4 w ow .set vs st.set
  t : OR (Kd.int .i64) 3 w ow .tr vt st.trail
  fl : fs.length = st.f.length
  fc : ∀ (j : Nat) (s : SL) (c : List Int), fs[j]? = some s → st.f[j]? = some c → OR (Kd.int .i64) 3 w ow (.cl j) s.v c
  il : is.length = st.inn.length
  ic : ∀ (j : Nat) (s : SL) (l : List Nat), is[j]? = some s → st.inn[j]? = some l → OR (Kd.int .i64) 3 w ow (.li j) s.v (ints l)
  top : ∀ k, w.heap.size ≤ k → ow k = none
def Rep (w : World) (ow : Nat → Option Role) (B : Nat) (st : St) : Prop := ∃ vf vi vv vs vt fs is, Rp w ow B st vf vi vv vs vt fs is
section
variable {w w1 : World} {ow ow1 : Nat → Option Role} {B : Nat} {st : St} {vf vi vv vs vt : Value} {fs is : List SL} {r : Role}
theorem Rp.below (h : Rp w ow B st vf vi vv vs vt fs is) (hb : Below w.heap.size w w1) : Rp w1 ow B st vf vi vv vs vt fs is :=
  ⟨blk_below h.box hb, h.bo, h.f.below hb, h.i.below hb, h.v.below hb, h.s.below hb, h.t.below hb, h.fl, fun j s c a b => (h.fc j s c a b).below hb, h.il, fun j s c a b => (h.ic j s c a b).below hb, fun k hk => h.top k (Nat.le_trans hb.size hk)⟩
theorem Rep.below (h : Rep w ow B st) (hb : Below w.heap.size w w1) : Rep w1 ow B st := by
  obtain ⟨vf, vi, vv, vs, vt, fs, is, h⟩ := h
  exact ⟨vf, vi, vv, vs, vt, fs, is, h.below hb⟩
theorem box_chg (hb : w.heap[B]? = some (.cells (boxOf st.n vf vi vv vs vt st.head) 51 (0, 0))) (ho : ow B = some .box) (hc : Chg ow ow1 w w1 r) (hr : Role.box ≠ r) : w1.heap[B]? = some (.cells (boxOf st.n vf vi vv vs vt st.head) 51 (0, 0)) ∧ ow1 B = some .box :=
  ⟨(hc.heap B (blk_lt hb) (by rw [ho]; exact fun e => hr (Option.some.inj e))).trans hb, (hc.own B (blk_lt hb)).trans ho⟩
/-- The truth values have been changed in their place. -/
theorem Rp.newVal (h : Rp w ow B st vf vi vv vs vt fs is) (hc : Chg ow ow1 w w1 .val) {l : List Bool} (hv : OR Kd.bool 4 w1 ow1 .val vv l) : Rp w1 ow1 B { st with val := l } vf vi vv vs vt fs is :=
  ⟨(box_chg h.box h.bo hc (by simp)).1, (box_chg h.box h.bo hc (by simp)).2, h.f.chg hc (by simp), h.i.chg hc (by simp), hv, h.s.chg hc (by simp), h.t.chg hc (by simp), h.fl, fun j s c a b => (h.fc j s c a b).chg hc (by simp), h.il, fun j s c a b => (h.ic j s c a b).chg hc (by simp), hc.top h.top⟩
theorem Rp.newSet (h : Rp w ow B st vf vi vv vs vt fs is) (hc : Chg ow ow1 w w1 .set) {l : List Bool} (hv : OR Kd.bool 4 w1 ow1 .set vs l) : Rp w1 ow1 B { st with set := l } vf vi vv vs vt fs is :=
  ⟨(box_chg h.box h.bo hc (by simp)).1, (box_chg h.box h.bo hc (by simp)).2, h.f.chg hc (by simp), h.i.chg hc (by simp), h.v.chg hc (by simp), hv, h.t.chg hc (by simp), h.fl, fun j s c a b => (h.fc j s c a b).chg hc (by simp), h.il, fun j s c a b => (h.ic j s c a b).chg hc (by simp), hc.top h.top⟩
/-- A clause has been changed in its place. -/
theorem Rp.newCl (h : Rp w ow B st vf vi vv vs vt fs is) {i : Nat} (hc : Chg ow ow1 w w1 (.cl i)) {s : SL} {c : List Int} (hs : fs[i]? = some s) (hv : OR (Kd.int .i64) 3 w1 ow1 (.cl i) s.v c) : Rp w1 ow1 B { st with f := st.f.set i c } vf vi vv vs vt fs is := by
  refine ⟨(box_chg h.box h.bo hc (by simp)).1, (box_chg h.box h.bo hc (by simp)).2, h.f.chg hc (by simp), h.i.chg hc (by simp), h.v.chg hc (by simp), h.s.chg hc (by simp), h.t.chg hc (by simp), by rw [h.fl]; simp, fun j s' c' a b => ?_, h.il, fun j s c a b => (h.ic j s c a b).chg hc (by simp), hc.top h.top⟩
  have b : (st.f.set i c)[j]? = some c' := b
  by_cases e : i = j
  · subst e
    have hl : i < st.f.length := by rw [← h.fl]; exact lt_of hs
    rw [List.getElem?_set_self hl] at b
    rw [hs] at a
    injection a with a
    injection b with b
    rw [← a, ← b]
    exact hv
  · rw [List.getElem?_set_ne e] at b
    exact (h.fc j s' c' a b).chg hc (by simp [Ne.symm e])
end
section
variable {w w1 : World} {ow ow1 : Nat → Option Role} {B : Nat} {st : St} {vf vi vv vs vt : Value} {fs is : List SL} {r : Role}
theorem OR.put {α : Type} {enc : α → Value} {h1 : ∀ x, (enc x).oneCell' = true} {e g n cap : Nat} {xs : List α} (h : OR (Kd.scalar enc h1) e w ow r (.slice (some ⟨g, 0, none⟩) n cap) xs) (i : Nat) (x : α) : OR (Kd.scalar enc h1) e (w.setCell ⟨g, i, none⟩ (enc x)) ow r (.slice (some ⟨g, 0, none⟩) n cap) (xs.set i x) := by
  have := Kd.R_putn (show Kd.R (Kd.scalar enc h1) e w 0 _ _ xs from h) (i : Int) x
  rw [Int.toNat_natCast] at this
  exact this
theorem Rp.box_set (h : Rp w ow B st vf vi vv vs vt fs is) (j : Nat) (u : Value) : Chg ow ow w (w.setCell ⟨B, j, none⟩ u) .box ∧ (w.setCell ⟨B, j, none⟩ u).heap[B]? = some (.cells ((boxOf st.n vf vi vv vs vt st.head).setIfInBounds j u) 51 (0, 0)) :=
  ⟨Chg.set h.bo j u, blk_set h.box j u⟩
/-- The trail is another row. -/
theorem Rp.newTrail (h : Rp w ow B st vf vi vv vs vt fs is) (hc : Chg ow ow1 w w1 .tr) {l : List Int} {v2 : Value} (hv : OR (Kd.int .i64) 3 w1 ow1 .tr v2 l) : Rp (w1.setCell ⟨B, 5, none⟩ v2) ow1 B { st with trail := l } vf vi vv vs v2 fs is := by
  have hb := box_chg h.box h.bo hc (by simp)
  have c1 : Chg ow1 ow1 w1 (w1.setCell ⟨B, 5, none⟩ v2) .box := Chg.set hb.2 5 v2
  refine ⟨(blk_set hb.1 5 v2).trans rfl, hb.2, (h.f.chg hc (by simp)).chg c1 (by simp), (h.i.chg hc (by simp)).chg c1 (by simp), (h.v.chg hc (by simp)).chg c1 (by simp), (h.s.chg hc (by simp)).chg c1 (by simp), hv.chg c1 (by simp), h.fl, fun j s c a b => ((h.fc j s c a b).chg hc (by simp)).chg c1 (by simp), h.il, fun j s c a b => ((h.ic j s c a b).chg hc (by simp)).chg c1 (by simp), c1.top (hc.top h.top)⟩
/-- The head is another number. -/
theorem Rp.newHead (h : Rp w ow B st vf vi vv vs vt fs is) (k : Nat) : Rp (w.setCell ⟨B, 6, none⟩ (.int .i64 (k : Int))) ow B { st with head := k } vf vi vv vs vt fs is := by
  have c1 : Chg ow ow w (w.setCell ⟨B, 6, none⟩ (.int .i64 (k : Int))) .box := Chg.set h.bo 6 _
  refine ⟨(blk_set h.box 6 _).trans rfl, h.bo, h.f.chg c1 (by simp), h.i.chg c1 (by simp), h.v.chg c1 (by simp), h.s.chg c1 (by simp), h.t.chg c1 (by simp), h.fl, fun j s c a b => (h.fc j s c a b).chg c1 (by simp), h.il, fun j s c a b => (h.ic j s c a b).chg c1 (by simp), c1.top h.top⟩
/-- A row of the watches is another one. -/
theorem Rp.newLi (h : Rp w ow B st vf vi vv vs vt fs is) {k : Nat} (hc : Chg ow ow1 w w1 (.li k)) {l : List Nat} {s2 : SL} (hv : OR (Kd.int .i64) 3 w1 ow1 (.li k) s2.v (ints l)) {g n c : Nat} (hvi : vi = .slice (some ⟨g, 0, none⟩) n c) : Rp (w1.setCell ⟨g, k, none⟩ s2.v) ow1 B { st with inn := st.inn.set k l } vf vi vv vs vt fs (is.set k s2) := by
  have hb := box_chg h.box h.bo hc (by simp)
  have hi : OR kSl 37 w1 ow1 .inn vi is := h.i.chg hc (by simp)
  have ho : ow1 g = some .inn := hi.block (by rw [hvi]; rfl)
  have c1 : Chg ow1 ow1 w1 (w1.setCell ⟨g, k, none⟩ s2.v) .inn := Chg.set ho k _
  have hb2 := box_chg hb.1 hb.2 c1 (by simp)
  have hi2 : OR kSl 37 (w1.setCell ⟨g, k, none⟩ s2.v) ow1 .inn vi (is.set k s2) := by
    rw [hvi] at hi ⊢
    exact hi.put k s2
  refine ⟨hb2.1, hb2.2, (h.f.chg hc (by simp)).chg c1 (by simp), hi2, (h.v.chg hc (by simp)).chg c1 (by simp), (h.s.chg hc (by simp)).chg c1 (by simp), (h.t.chg hc (by simp)).chg c1 (by simp), h.fl, fun j s c a b => ((h.fc j s c a b).chg hc (by simp)).chg c1 (by simp), by rw [List.length_set]; show _ = (st.inn.set k l).length; rw [List.length_set]; exact h.il, fun j s l' a b => ?_, c1.top (hc.top h.top)⟩
  have b : (st.inn.set k l)[j]? = some l' := b
  by_cases e : k = j
  · subst e
    have hl : k < is.length := by have := lt_of a; rw [List.length_set] at this; exact this
    have hl' : k < st.inn.length := by rw [← h.il]; exact hl
    rw [List.getElem?_set_self hl] at a
    rw [List.getElem?_set_self hl'] at b
    injection a with a
    injection b with b
    rw [← a, ← b]
    exact hv.chg c1 (by simp)
  · rw [List.getElem?_set_ne e] at a b
    exact ((h.ic j s l' a b).chg hc (by simp [Ne.symm e])).chg c1 (by simp)
end
end Go.Proofs.Ytnhpfdnhnocgjaa.S
/- dpll.at, is: walked over the relation. -/
namespace Go.Proofs.Ytnhpfdnhnocgjaa.S
open Go.RowKit Go.Proofs.Ytnhpfdnhnocgjaa.D Go.Proofs.YtnhpfdnhnocgjaaW.PrintWords Go.Proofs.YtnhpfdnhnocgjaaW.PrintLast Go.Proofs.YtnhpfdnhnocgjaaW.PrintMore
set_option linter.unusedVariables false
set_option linter.unusedSimpArgs false
attribute [local go_sem] max2_int min2_int max_two min_two
set_option maxRecDepth 100000 in
theorem at41 (v : Int) (n : Nat) (hn : n ≤ 65536) (hv : okL n v) (w : World) : Calls Try.prog 41 #[.int .i64 v] w fun e w' => e = .returned (.int .i64 (pl v : Int)) ∧ w = w' := by
  have h1 : -65536 ≤ v := by have := hv.2; omega
  have h2 : v ≤ 65536 := by have := hv.2; omega
  by_cases h : v < 0
  · have e : (pl v : Int) = -2 * v + 1 := by unfold pl; rw [if_pos h]; omega
    have he := Aside0.mk e
    have q : decide (v < 0) = true := decide_eq_true h
    clear e hv hn
    go_enter Try.func41, Try.ntmps41
    go_wp2
    go_ret
    exact ⟨congrArg (fun x => Ending.returned (Value.int .i64 x)) he.out.symm, rfl⟩
  · have e : (pl v : Int) = 2 * v := by unfold pl; rw [if_neg h]; omega
    have he := Aside0.mk e
    have q : decide (v < 0) = false := decide_eq_false h
    clear e hv hn
    go_enter Try.func41, Try.ntmps41
    go_wp2
    go_ret
    exact ⟨congrArg (fun x => Ending.returned (Value.int .i64 x)) he.out.symm, rfl⟩
structure Bd (st : St) : Prop where
  n : st.n ≤ 65536
  m : st.f.length ≤ 5864062014804
theorem rdOf_abs {l : List Bool} {v : Int} : rdOf false l (v.natAbs : Int) = l.getD v.natAbs false := rfl
theorem cells51 {w : World} {ow : Nat → Option Role} {B : Nat} {st : St} {vf vi vv vs vt : Value} {fs is : List SL} (h : Rp w ow B st vf vi vv vs vt fs is) :
    w.cell? ⟨B, 0, none⟩ = some (.int .i64 (st.n : Int)) ∧ w.cell? ⟨B, 1, none⟩ = some vf ∧ w.cell? ⟨B, 2, none⟩ = some vi ∧ w.cell? ⟨B, 3, none⟩ = some vv ∧ w.cell? ⟨B, 4, none⟩ = some vs ∧ w.cell? ⟨B, 5, none⟩ = some vt ∧ w.cell? ⟨B, 6, none⟩ = some (.int .i64 (st.head : Int)) ∧ w.cell? ⟨B, 7, none⟩ = some (.int .i64 0) :=
  ⟨(blk_cell h.box 0).trans rfl, (blk_cell h.box 1).trans rfl, (blk_cell h.box 2).trans rfl, (blk_cell h.box 3).trans rfl, (blk_cell h.box 4).trans rfl, (blk_cell h.box 5).trans rfl, (blk_cell h.box 6).trans rfl, (blk_cell h.box 7).trans rfl⟩
theorem OR.boolCell {w : World} {ow : Nat → Option Role} {r : Role} {v : Value} {l : List Bool} (h : OR Kd.bool 4 w ow r v l) (hp : 0 < l.length) : ∃ g cap, v = .slice (some ⟨g, 0, none⟩) l.length cap ∧ ow g = some r ∧ g < w.heap.size ∧ ∀ i : Nat, i < l.length → w.cell? ⟨g, i, none⟩ = some (.bool (l.getD i false)) ∧ w.frozen? ⟨g, i, none⟩ = false := by
  obtain ⟨g, cap, rfl, ho, hl⟩ := h.form hp
  refine ⟨g, cap, rfl, ho, hl, fun i hi => ?_⟩
  have := Kd.R_celln false (show Kd.R Kd.bool 4 w 0 _ _ l from h) (i : Int) (by omega) (by omega)
  rw [Int.toNat_natCast] at this
  exact this
theorem OR.intCell {w : World} {ow : Nat → Option Role} {r : Role} {v : Value} {l : List Int} (h : OR (Kd.int .i64) 3 w ow r v l) (hp : 0 < l.length) : ∃ g cap, v = .slice (some ⟨g, 0, none⟩) l.length cap ∧ ow g = some r ∧ g < w.heap.size ∧ ∀ i : Nat, i < l.length → w.cell? ⟨g, i, none⟩ = some (.int .i64 (l.getD i 0)) ∧ w.frozen? ⟨g, i, none⟩ = false := by
  obtain ⟨g, cap, rfl, ho, hl⟩ := h.form hp
  refine ⟨g, cap, rfl, ho, hl, fun i hi => ?_⟩
  have := Kd.R_celln 0 (show Kd.R (Kd.int .i64) 3 w 0 _ _ l from h) (i : Int) (by omega) (by omega)
  rw [Int.toNat_natCast] at this
  exact this
theorem OR.slCell {w : World} {ow : Nat → Option Role} {r : Role} {v : Value} {l : List SL} (h : OR kSl 37 w ow r v l) (hp : 0 < l.length) : ∃ g cap, v = .slice (some ⟨g, 0, none⟩) l.length cap ∧ ow g = some r ∧ g < w.heap.size ∧ ∀ (i : Nat) (s : SL), l[i]? = some s → w.cell? ⟨g, i, none⟩ = some s.v ∧ w.frozen? ⟨g, i, none⟩ = false := by
  obtain ⟨g, cap, rfl, ho, hl⟩ := h.form hp
  refine ⟨g, cap, rfl, ho, hl, fun i s hi => ?_⟩
  have hlt := lt_of hi
  have := Kd.R_celln (⟨none, 0, 0⟩ : SL) (show Kd.R kSl 37 w 0 _ _ l from h) (i : Int) (by omega) (by omega)
  have e : rdOf (⟨none, 0, 0⟩ : SL) l (i : Int) = s := by
    unfold rdOf
    rw [Int.toNat_natCast, List.getD_eq_getElem?_getD, hi]; rfl
  rw [e, Int.toNat_natCast] at this
  exact this
theorem wrap_neg {v : Int} (h1 : -65536 ≤ v) (h2 : v ≤ 65536) : IntKind.i64.wrap (-v) = -v := IntWalk.i64_in _ (by omega)
set_option maxRecDepth 100000 in
set_option maxHeartbeats 1000000 in
theorem is40 {w : World} {ow : Nat → Option Role} {B : Nat} {st : St} (hR : Rep w ow B st) (hT : Tr st) (hn : st.n ≤ 65536) {v : Int} (hv : okL st.n v) :
    Calls Try.prog 40 #[.pointer (some ⟨B, 0, none⟩), .int .i64 v] w fun e w' => e = .returned (.tuple #[.bool (st.on v), .bool (st.known v)]) ∧ Drawn0 w w' := by
  have h1 : -65536 ≤ v := by have := hv.2; omega
  have h2 : v ≤ 65536 := by have := hv.2; omega
  obtain ⟨vf, vi, vv, vs, vt, fs, is, h⟩ := hR
  obtain ⟨c0, c1, c2, c3, c4, c5, c6, c7⟩ := cells51 h
  obtain ⟨gv, cv, rfl, _, _, hcv⟩ := h.v.boolCell (by rw [hT.lv]; omega)
  obtain ⟨gs, cs, rfl, _, _, hcs⟩ := h.s.boolCell (by rw [hT.ls]; omega)
  have hk : v.natAbs < st.val.length := by rw [hT.lv]; have := hv.2; omega
  have hk' : v.natAbs < st.set.length := by rw [hT.ls]; have := hv.2; omega
  have x1 := (hcv _ hk).1
  have x2 := (hcs _ hk').1
  obtain ⟨nv, hnv⟩ : ∃ nv, st.val.length = nv := ⟨_, rfl⟩
  obtain ⟨ns, hns⟩ : ∃ ns, st.set.length = ns := ⟨_, rfl⟩
  rw [hnv] at c3 hk
  rw [hns] at c4 hk'
  have HP : Aside0 (st.on v = (if v < 0 then !(st.val.getD v.natAbs false) else st.val.getD v.natAbs false) ∧ st.known v = st.set.getD v.natAbs false) := ⟨⟨rfl, rfl⟩⟩
  obtain ⟨b1, hb1⟩ : ∃ b, st.val.getD v.natAbs false = b := ⟨_, rfl⟩
  obtain ⟨b2, hb2⟩ : ∃ b, st.set.getD v.natAbs false = b := ⟨_, rfl⟩
  rw [hb1] at x1 HP
  rw [hb2] at x2 HP
  obtain ⟨on, hon⟩ : ∃ b, st.on v = b := ⟨_, rfl⟩
  obtain ⟨kn, hkn⟩ : ∃ b, st.known v = b := ⟨_, rfl⟩
  rw [hon, hkn] at HP ⊢
  clear hcv hcs h hnv hns hb1 hb2 hon hkn hT hn hv c0 c1 c2 c5 c6 c7
  by_cases hlt : v < 0
  · have hj : ((v.natAbs : Nat) : Int) = -v := by omega
    have hjn : v.natAbs = (-v).toNat := by omega
    have e1 := HP.out.1
    rw [if_pos hlt] at e1
    have e2 := HP.out.2
    subst e1 e2
    clear HP
    rw [hjn] at x1 x2 hk hk'
    have q : decide (v < 0) = true := decide_eq_true hlt
    obtain ⟨j, hj'⟩ : ∃ j : Int, -v = j := ⟨_, rfl⟩
    have hw : IntKind.i64.wrap (-v) = j := (wrap_neg h1 h2).trans hj'
    rw [hj'] at x1 x2 hk hk'
    have p0 : 0 ≤ j := by omega
    have p1 : j < (nv : Int) := by omega
    have p2 : j < (ns : Int) := by omega
    have d0 : decide (0 ≤ j) = true := decide_eq_true p0
    have d1 : decide (j < (nv : Int)) = true := decide_eq_true p1
    have d2 : decide (j < (ns : Int)) = true := decide_eq_true p2
    clear hj hjn hj' hk hk' hlt h1 h2
    go_enter Try.func40, Try.ntmps40
    go_wp2
    go_quiet (fail)
    all_goals go_wp2
    all_goals
      go_ret2
      exact ⟨rfl, ⟨⟨_, rfl⟩⟩⟩
  · have hjn : v.natAbs = v.toNat := by omega
    have e1 := HP.out.1
    rw [if_neg hlt] at e1
    have e2 := HP.out.2
    subst e1 e2
    clear HP
    rw [hjn] at x1 x2 hk hk'
    have q : decide (v < 0) = false := decide_eq_false hlt
    have p0 : 0 ≤ v := by omega
    have p1 : v < (nv : Int) := by omega
    have p2 : v < (ns : Int) := by omega
    have d0 : decide (0 ≤ v) = true := decide_eq_true p0
    have d1 : decide (v < (nv : Int)) = true := decide_eq_true p1
    have d2 : decide (v < (ns : Int)) = true := decide_eq_true p2
    clear hjn hk hk' hlt h1 h2
    go_enter Try.func40, Try.ntmps40
    go_wp2
    go_quiet (fail)
    all_goals go_wp2
    all_goals
      go_ret2
      exact ⟨rfl, ⟨⟨_, rfl⟩⟩⟩
end Go.Proofs.Ytnhpfdnhnocgjaa.S
/- assign and need: walked over the relation. -/
namespace Go.Proofs.Ytnhpfdnhnocgjaa.S
open Go.RowKit Go.Proofs.Ytnhpfdnhnocgjaa.D Go.Proofs.YtnhpfdnhnocgjaaW.PrintWords Go.Proofs.YtnhpfdnhnocgjaaW.PrintLast Go.Proofs.YtnhpfdnhnocgjaaW.PrintMore
set_option linter.unusedVariables false
set_option linter.unusedSimpArgs false
attribute [local go_sem] max2_int min2_int max_two min_two
/-- Only the trail (and what is set) may be another. -/
def Turned (w : World) (ow : Nat → Option Role) (B : Nat) (st' : St) (vf vi vv vs : Value) (fs is : List SL) (w' : World) : Prop := ∃ ow' vt', Fr ow ow' w w' ∧ Rp w' ow' B st' vf vi vv vs vt' fs is
set_option maxRecDepth 100000 in
set_option maxHeartbeats 1000000 in
theorem assign31 {w : World} {ow : Nat → Option Role} {B : Nat} {st : St} {vf vi vv vs vt : Value} {fs is : List SL} (h : Rp w ow B st vf vi vv vs vt fs is) (hT : Tr st) (hn : st.n ≤ 65536) (hl : st.trail.length ≤ 65536) {v : Int} (hv : okL st.n v) :
    Calls Try.prog 31 #[.pointer (some ⟨B, 0, none⟩), .int .i64 v] w fun e w' => e = .returned (.tuple #[]) ∧ Turned w ow B (st.assign v) vf vi vv vs fs is w' := by
  have h1 : -65536 ≤ v := by have := hv.2; omega
  have h2 : v ≤ 65536 := by have := hv.2; omega
  have hv0 : v ≠ 0 := hv.1
  obtain ⟨c0, c1, c2, c3, c4, c5, c6, c7⟩ := cells51 h
  obtain ⟨gv, cv, rfl, ogv, lgv, hcv⟩ := h.v.boolCell (by rw [hT.lv]; omega)
  obtain ⟨gs, cs, rfl, ogs, lgs, hcs⟩ := h.s.boolCell (by rw [hT.ls]; omega)
  have hk : v.natAbs < st.val.length := by rw [hT.lv]; have := hv.2; omega
  have hk' : v.natAbs < st.set.length := by rw [hT.ls]; have := hv.2; omega
  obtain ⟨x1, f1⟩ := hcv _ hk
  obtain ⟨x2, f2⟩ := hcs _ hk'
  have hne : gv ≠ gs := fun e => by rw [e, ogs] at ogv; cases ogv
  have hne' : gs ≠ gv := Ne.symm hne
  have hnB : B ≠ gv := fun e => by rw [← e, h.bo] at ogv; cases ogv
  have hnB' : B ≠ gs := fun e => by rw [← e, h.bo] at ogs; cases ogs
  have HO := Aside0.mk (And.intro ogv (And.intro ogs (And.intro h.bo hT)))
  obtain ⟨At, ct, rfl⟩ := Kd.R_slice h.t
  have H := Aside0.mk h
  clear h hcv hcs ogv ogs hT hv
  obtain ⟨nv, hnv⟩ : ∃ nv, st.val.length = nv := ⟨_, rfl⟩
  obtain ⟨ns, hns⟩ : ∃ ns, st.set.length = ns := ⟨_, rfl⟩
  rw [hnv] at c3 hk
  rw [hns] at c4 hk'
  have HN := Aside0.mk (And.intro hnv hns)
  clear hnv hns
  by_cases hlt : v < 0
  · skip
    have q : decide (v < 0) = true := decide_eq_true hlt
    obtain ⟨j, hj⟩ : ∃ j : Int, -v = j := ⟨_, rfl⟩
    have hw : IntKind.i64.wrap (-v) = j := (wrap_neg h1 h2).trans hj
    have hjn : v.natAbs = j.toNat := by omega
    have hgt : decide (0 < v) = false := decide_eq_false (by omega)
    have hmx : v ≤ -v := by omega
    rw [hjn] at x1 x2 f1 f2 hk hk'
    have p0 : 0 ≤ j := by omega
    have p1 : j < (nv : Int) := by omega
    have p2 : j < (ns : Int) := by omega
    go_enter Try.func31, Try.ntmps31
    go_wp2
    go_region
    have hv1 : OR Kd.bool 4 (w.setCell ⟨gv, j.toNat, none⟩ (.bool false)) ow .val _ _ := OR.put H.out.v j.toNat false
    have r1 := H.out.newVal (Chg.set HO.out.1 j.toNat (.bool false)) hv1
    have hs1 : OR Kd.bool 4 ((w.setCell ⟨gv, j.toNat, none⟩ (.bool false)).setCell ⟨gs, j.toNat, none⟩ (.bool true)) ow .set _ _ := OR.put r1.s j.toNat true
    have r2 := r1.newSet (Chg.set HO.out.2.1 j.toNat (.bool true)) hs1
    have fr2 := (Chg.set HO.out.1 j.toNat (.bool false)).fr.trans (Chg.set (w := w.setCell ⟨gv, j.toNat, none⟩ (.bool false)) HO.out.2.1 j.toNat (.bool true)).fr
    have bd := bd_drew (((w.setCell ⟨gv, j.toNat, none⟩ (.bool false)).setCell ⟨gs, j.toNat, none⟩ (.bool true)))
    have R3 := Aside0.mk (r2.below bd)
    have FR3 := Aside0.mk (fr2.trans (Fr.of_below bd))
    obtain ⟨w3, hw3⟩ : ∃ w3, ((w.setCell ⟨gv, j.toNat, none⟩ (.bool false)).setCell ⟨gs, j.toNat, none⟩ (.bool true)).drew = w3 := ⟨_, rfl⟩
    rw [hw3] at R3 FR3 ⊢
    clear hw3 hv1 r1 hs1 r2 fr2 bd c0 c1 c2 c3 c4 c5 c6 c7 x1 x2 f1 f2
    have c5 := (cells51 R3.out).2.2.2.2.2.1
    go_wp2_with (at_builtin; refine or_append rfl (.tmp 27) (.tmp 29) rfl Try.underlying37 P.info3 rfl (by decide) (ow := ow) (r := .tr) (.slice At st.trail.length ct) st.trail v rfl rfl R3.out.t (by omega) R3.out.top ?_; intro v4 w4 ow4 T4 G4; have T4' := Aside0.mk T4; have G4' := Aside0.mk G4; have bx := box_chg R3.out.box R3.out.bo G4 (by simp); have y5 : w4.cell? ⟨B, 5, none⟩ = some (.slice At st.trail.length ct) := (blk_cell bx.1 5).trans rfl; have z5 := blk_frozen bx.1 5; obtain ⟨A4, c4', rfl⟩ := Kd.R_slice T4; have BX := Aside0.mk bx; clear T4 G4 bx)
    go_end0
    have R5 := R3.out.newTrail G4'.out T4'.out
    have F5 := (FR3.out.trans G4'.out.fr).trans (Chg.set (w := w4) BX.out.2 5 (.slice A4 (st.trail ++ [v]).length c4')).fr
    rw [List.length_append, List.length_singleton] at R5 F5
    refine ⟨rfl, _, .slice A4 (st.trail.length + 1) c4', F5, ?_⟩
    have e : st.assign v = { st with val := st.val.set j.toNat false, set := st.set.set j.toNat true, trail := st.trail ++ [v] } := by
      unfold St.assign
      rw [hjn, hgt]
    rw [e]
    exact R5
  · skip
    have q : decide (v < 0) = false := decide_eq_false hlt
    have hjn : v.natAbs = v.toNat := by omega
    have hgt : decide (0 < v) = true := decide_eq_true (by have := hv0; omega)
    have hmx : -v ≤ v := by omega
    rw [hjn] at x1 x2 f1 f2 hk hk'
    have p0 : 0 ≤ v := by omega
    have p1 : v < (nv : Int) := by omega
    have p2 : v < (ns : Int) := by omega
    go_enter Try.func31, Try.ntmps31
    go_wp2
    go_region
    have hv1 : OR Kd.bool 4 (w.setCell ⟨gv, v.toNat, none⟩ (.bool true)) ow .val _ _ := OR.put H.out.v v.toNat true
    have r1 := H.out.newVal (Chg.set HO.out.1 v.toNat (.bool true)) hv1
    have hs1 : OR Kd.bool 4 ((w.setCell ⟨gv, v.toNat, none⟩ (.bool true)).setCell ⟨gs, v.toNat, none⟩ (.bool true)) ow .set _ _ := OR.put r1.s v.toNat true
    have r2 := r1.newSet (Chg.set HO.out.2.1 v.toNat (.bool true)) hs1
    have fr2 := (Chg.set HO.out.1 v.toNat (.bool true)).fr.trans (Chg.set (w := w.setCell ⟨gv, v.toNat, none⟩ (.bool true)) HO.out.2.1 v.toNat (.bool true)).fr
    have bd := bd_drew (((w.setCell ⟨gv, v.toNat, none⟩ (.bool true)).setCell ⟨gs, v.toNat, none⟩ (.bool true)))
    have R3 := Aside0.mk (r2.below bd)
    have FR3 := Aside0.mk (fr2.trans (Fr.of_below bd))
    obtain ⟨w3, hw3⟩ : ∃ w3, ((w.setCell ⟨gv, v.toNat, none⟩ (.bool true)).setCell ⟨gs, v.toNat, none⟩ (.bool true)).drew = w3 := ⟨_, rfl⟩
    rw [hw3] at R3 FR3 ⊢
    clear hw3 hv1 r1 hs1 r2 fr2 bd c0 c1 c2 c3 c4 c5 c6 c7 x1 x2 f1 f2
    have c5 := (cells51 R3.out).2.2.2.2.2.1
    go_wp2_with (at_builtin; refine or_append rfl (.tmp 27) (.tmp 29) rfl Try.underlying37 P.info3 rfl (by decide) (ow := ow) (r := .tr) (.slice At st.trail.length ct) st.trail v rfl rfl R3.out.t (by omega) R3.out.top ?_; intro v4 w4 ow4 T4 G4; have T4' := Aside0.mk T4; have G4' := Aside0.mk G4; have bx := box_chg R3.out.box R3.out.bo G4 (by simp); have y5 : w4.cell? ⟨B, 5, none⟩ = some (.slice At st.trail.length ct) := (blk_cell bx.1 5).trans rfl; have z5 := blk_frozen bx.1 5; obtain ⟨A4, c4', rfl⟩ := Kd.R_slice T4; have BX := Aside0.mk bx; clear T4 G4 bx)
    go_end0
    have R5 := R3.out.newTrail G4'.out T4'.out
    have F5 := (FR3.out.trans G4'.out.fr).trans (Chg.set (w := w4) BX.out.2 5 (.slice A4 (st.trail ++ [v]).length c4')).fr
    rw [List.length_append, List.length_singleton] at R5 F5
    refine ⟨rfl, _, .slice A4 (st.trail.length + 1) c4', F5, ?_⟩
    have e : st.assign v = { st with val := st.val.set v.toNat true, set := st.set.set v.toNat true, trail := st.trail ++ [v] } := by
      unfold St.assign
      rw [hjn, hgt]
    rw [e]
    exact R5
set_option maxRecDepth 100000 in
set_option maxHeartbeats 1000000 in
theorem need26 {w : World} {ow : Nat → Option Role} {B : Nat} {st : St} {vf vi vv vs vt : Value} {fs is : List SL} (h : Rp w ow B st vf vi vv vs vt fs is) (hT : Tr st) (hn : st.n ≤ 65536) (hl : st.trail.length ≤ 65536) {v : Int} (hv : okL st.n v) :
    Calls Try.prog 26 #[.pointer (some ⟨B, 0, none⟩), .int .i64 v] w fun e w' => e = .returned (.bool (!st.known v || st.on v)) ∧ Turned w ow B (if st.known v then st else st.assign v) vf vi vv vs fs is w' := by
  have HI := Aside0.mk (is40 ⟨_, _, _, _, _, _, _, h⟩ hT hn hv)
  have HR := Aside0.mk h
  have HS := Aside0.mk (And.intro hT (And.intro hn (And.intro hl hv)))
  obtain ⟨on, hon⟩ : ∃ b, st.on v = b := ⟨_, rfl⟩
  obtain ⟨kn, hkn⟩ : ∃ b, st.known v = b := ⟨_, rfl⟩
  rw [hon, hkn] at HI
  rw [hon, hkn]
  clear h hT hn hl hv hon hkn
  cases kn with
  | true =>
    go_enter Try.func26, Try.ntmps26
    go_wp2_with (go_at_call 40; refine HI.out.mono ?_; rintro e w1 ⟨rfl, hd⟩; have HD := Aside0.mk hd; clear hd)
    go_ret
    exact ⟨rfl, ow, vt, Fr.of_below HD.out.below, HR.out.below HD.out.below⟩
  | false =>
    go_enter Try.func26, Try.ntmps26
    go_wp2_with (first
      | (go_at_call 31; (with_reducible refine (assign31 (HR.out.below HD.out.below) HS.out.1 HS.out.2.1 HS.out.2.2.1 HS.out.2.2.2).mono ?_); rintro e w2 ⟨rfl, hx⟩; have HX := Aside0.mk hx; clear hx)
      | (go_at_call 40; refine HI.out.mono ?_; rintro e w1 ⟨rfl, hd⟩; have HD := Aside0.mk hd; clear hd))
    go_ret
    obtain ⟨ow', vt', hf, hr⟩ := HX.out
    exact ⟨rfl, ow', vt', (Fr.of_below HD.out.below).trans hf, hr⟩
end Go.Proofs.Ytnhpfdnhnocgjaa.S
