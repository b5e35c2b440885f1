/- Joined by a program of this session out of: HpN, HpO. -/
import Derived.Test.YtnhpfdnhnocgjaaHpM
import Derived.Test.YtnhpfdnhnocgjaaDpF
import Derived.Deep.CutBlock
/- Making the solver: what lies in memory. -/
namespace Go.Proofs.Ytnhpfdnhnocgjaa.S
open Go.RowKit Go.Proofs.Ytnhpfdnhnocgjaa.D Go.Proofs.YtnhpfdnhnocgjaaW.PrintWords Go.Proofs.YtnhpfdnhnocgjaaW.PrintLast Go.Proofs.YtnhpfdnhnocgjaaW.PrintMore
set_option linter.unusedVariables false
set_option linter.unusedSimpArgs false
theorem made_rep (z : Value) (m : Nat) : madeCells #[z] m = (List.replicate m z).toArray := by
  apply Array.ext
  · simp [madeCells]
  · intro i h1 h2
    simp [madeCells, Nat.mod_one]
theorem OR.ofBlock {α : Type} {enc : α → Value} {h1 : ∀ x, (enc x).oneCell' = true} {e : Nat} {w : World} {ow : Nat → Option Role} {r : Role} {g : Nat} {xs : List α} (hg : w.heap[g]? = some (.cells (xs.map enc).toArray e (0, 0))) (ho : ow g = some r) (hm : xs.length ≤ maxLen) :
    OR (Kd.scalar enc h1) e w ow r (.slice (some ⟨g, 0, none⟩) xs.length xs.length) xs := by
  refine Kd.R_of_own ⟨by unfold encs; rw [List.length_map, Nat.mul_one], .inr ⟨g, xs.length, (xs.map enc).toArray, rfl, Nat.zero_le _, hg, Nat.le_refl _, hm, by rw [Nat.mul_one]; simp, by rw [Nat.mul_one]; unfold encs; exact List.take_of_length_le (by simp)⟩⟩ (fun k hk => ?_)
  have : g = k := by simpa [Value.ownBlock] using hk
  rw [← this]; exact ho
/-- The owners at the start. -/
def ow0 (B gi gv gs : Nat) : Nat → Option Role := fun k => if k = B then some .box else if k = gi then some .inn else if k = gv then some .val else if k = gs then some .set else none
theorem Rep.start {W : World} {n m B gi gv gs : Nat} (hn : n ≤ 65536)
    (hB : W.heap[B]? = some (.cells #[.int .i64 (n : Int), .slice none 0 0, .slice (some ⟨gi, 0, none⟩) (2 * n + 2) (2 * n + 2), .slice (some ⟨gv, 0, none⟩) (n + 1) (n + 1), .slice (some ⟨gs, 0, none⟩) (n + 1) (n + 1), .slice none 0 0, .int .i64 0, .int .i64 0] 51 (0, 0)))
    (hi : W.heap[gi]? = some (.cells (madeCells #[.slice none 0 0] (2 * n + 2)) 37 (0, 0))) (hv : W.heap[gv]? = some (.cells (madeCells #[.bool false] (n + 1)) 4 (0, 0))) (hs : W.heap[gs]? = some (.cells (madeCells #[.bool false] (n + 1)) 4 (0, 0)))
    (hne : gv ≠ gs) (mB : m ≤ B) (mi : m ≤ gi) (mv : m ≤ gv) (ms : m ≤ gs) : ∃ ow, Rep W ow B (st0 n) ∧ ∀ k, k < m → ow k = none := by
  have n1 : gi ≠ B := fun e => by rw [e, hB] at hi; injection hi with hi; injection hi with _ h; cases h
  have n2 : gv ≠ B := fun e => by rw [e, hB] at hv; injection hv with hv; injection hv with _ h; cases h
  have n3 : gs ≠ B := fun e => by rw [e, hB] at hs; injection hs with hs; injection hs with _ h; cases h
  have n4 : gv ≠ gi := fun e => by rw [e, hi] at hv; injection hv with hv; injection hv with _ h; cases h
  have n5 : gs ≠ gi := fun e => by rw [e, hi] at hs; injection hs with hs; injection hs with _ h; cases h
  rw [made_rep] at hi hv hs
  have li := blk_lt hi
  have lv := blk_lt hv
  have ls := blk_lt hs
  have lB := blk_lt hB
  refine ⟨ow0 B gi gv gs, ⟨.slice none 0 0, .slice (some ⟨gi, 0, none⟩) (2 * n + 2) (2 * n + 2), .slice (some ⟨gv, 0, none⟩) (n + 1) (n + 1), .slice (some ⟨gs, 0, none⟩) (n + 1) (n + 1), .slice none 0 0, [], List.replicate (2 * n + 2) ⟨none, 0, 0⟩, hB, if_pos rfl, Kd.R_nil _ _ _ _ _, ?_, ?_, ?_, Kd.R_nil _ _ _ _ _, rfl, fun j s c a _ => by simp at a, ?_, ?_, ?_⟩, ?_⟩
  · have := OR.ofBlock (enc := SL.v) (h1 := fun _ => rfl) (w := W) (ow := ow0 B gi gv gs) (r := .inn) (g := gi) (e := 37) (xs := List.replicate (2 * n + 2) ⟨none, 0, 0⟩) (by rw [List.map_replicate]; exact hi) (by unfold ow0; rw [if_neg n1, if_pos rfl]) (by rw [List.length_replicate]; unfold maxLen; omega)
    rw [List.length_replicate] at this
    exact this
  · have := OR.ofBlock (enc := Value.bool) (h1 := fun _ => rfl) (w := W) (ow := ow0 B gi gv gs) (r := .val) (g := gv) (e := 4) (xs := List.replicate (n + 1) false) (by rw [List.map_replicate]; exact hv) (by unfold ow0; rw [if_neg n2, if_neg n4, if_pos rfl]) (by rw [List.length_replicate]; unfold maxLen; omega)
    rw [List.length_replicate] at this
    exact this
  · have := OR.ofBlock (enc := Value.bool) (h1 := fun _ => rfl) (w := W) (ow := ow0 B gi gv gs) (r := .set) (g := gs) (e := 4) (xs := List.replicate (n + 1) false) (by rw [List.map_replicate]; exact hs) (by unfold ow0; rw [if_neg n3, if_neg n5, if_neg (Ne.symm hne), if_pos rfl]) (by rw [List.length_replicate]; unfold maxLen; omega)
    rw [List.length_replicate] at this
    exact this
  · rw [List.length_replicate]; exact List.length_replicate.symm
  · intro j s l a b
    have b : (List.replicate (2 * n + 2) ([] : List Nat))[j]? = some l := b
    rw [List.getElem?_replicate] at a b
    split at a
    · injection a with a
      rename_i hj
      rw [if_pos hj] at b
      injection b with b
      subst a b
      exact Kd.R_nil _ _ _ _ _
    · cases a
  · intro k hk
    unfold ow0
    rw [if_neg (by omega), if_neg (by omega), if_neg (by omega), if_neg (by omega)]
  · intro k hk
    unfold ow0
    rw [if_neg (by omega), if_neg (by omega), if_neg (by omega), if_neg (by omega)]
/-- A row that is nobody's yet. -/
def Free (w : World) (ow : Nat → Option Role) (v : Value) (c : List Int) : Prop := Kd.R (Kd.int .i64) 3 w 0 (fun k => ow k = none) v c
theorem Free.of {w w1 : World} {ow : Nat → Option Role} {v : Value} {c : List Int} (h : Kd.R (Kd.int .i64) 3 w1 w.heap.size (fun _ => True) v c) (ht : ∀ k, w.heap.size ≤ k → ow k = none) : Free w1 ow v c :=
  Kd.R_lower (Kd.R_mono (Kd.R_bound h) fun k hk => ht k hk.2.1) (Nat.zero_le _)
theorem Free.fr {w w1 : World} {ow ow1 : Nat → Option Role} {v : Value} {c : List Int} (h : Free w ow v c) (hf : Fr ow ow1 w w1) : Free w1 ow1 v c := by
  have h1 : Kd.R (Kd.int .i64) 3 w 0 (fun k => ow1 k = none ∧ w1.heap[k]? = w.heap[k]?) v c := Kd.R_mono (Kd.R_bound h) fun k hk => ⟨(hf.own k hk.2.2.1).trans hk.1, hf.heap k hk.2.2.1 hk.1⟩
  exact Kd.R_mono (Kd.R_move h1 fun k hk => hk.2) fun k hk => hk.1
/-- A clause is put behind the others. -/
theorem Rp.newF {w w1 : World} {ow ow1 : Nat → Option Role} {B : Nat} {st : St} {vf vi vv vs vt : Value} {fs is : List SL} (h : Rp w ow B st vf vi vv vs vt fs is) (hc : Chg ow ow1 w w1 .f) {s : SL} {v2 : Value} {c : List Int} (hv : OR kSl 37 w1 ow1 .f v2 (fs ++ [s])) (hr : Free w ow s.v c) :
    ∃ ow2, Rp (w1.setCell ⟨B, 1, none⟩ v2) ow2 B { st with f := st.f ++ [c] } v2 vi vv vs vt (fs ++ [s]) is ∧ ∀ k, (s.v.ownBlock ≠ some k) → ow2 k = ow1 k := by
  have hb := box_chg h.box h.bo hc (by simp)
  have c1 : Chg ow1 ow1 w1 (w1.setCell ⟨B, 1, none⟩ v2) .box := Chg.set hb.2 1 v2
  have hr1 : Free (w1.setCell ⟨B, 1, none⟩ v2) ow1 s.v c := (hr.fr hc.fr).fr c1.fr
  obtain ⟨m, hm⟩ : ∃ m, st.f.length = m := ⟨_, rfl⟩
  let ow2 : Nat → Option Role := fun k => if s.v.ownBlock = some k then some (.cl m) else ow1 k
  have hfree : ∀ k, s.v.ownBlock = some k → ow1 k = none := fun k hk => hr1.1 k hk
  have hkeep : ∀ k r, ow1 k = some r → ow2 k = some r := fun k r hk => by
    show (if s.v.ownBlock = some k then some (.cl m) else ow1 k) = some r
    rw [if_neg (fun e => by rw [hfree k e] at hk; cases hk)]
    exact hk
  have mv : ∀ {α : Type} {d : Kd α} {e : Nat} {r : Role} {v : Value} {xs : List α}, OR d e (w1.setCell ⟨B, 1, none⟩ v2) ow1 r v xs → OR d e (w1.setCell ⟨B, 1, none⟩ v2) ow2 r v xs := fun h => h.move fun k _ hk => ⟨rfl, hkeep k _ hk⟩
  refine ⟨ow2, ⟨(blk_set hb.1 1 v2).trans rfl, hkeep _ _ hb.2, mv (hv.chg c1 (by simp)), mv ((h.i.chg hc (by simp)).chg c1 (by simp)), mv ((h.v.chg hc (by simp)).chg c1 (by simp)), mv ((h.s.chg hc (by simp)).chg c1 (by simp)), mv ((h.t.chg hc (by simp)).chg c1 (by simp)), ?_, ?_, h.il, fun j s l a b => mv (((h.ic j s l a b).chg hc (by simp)).chg c1 (by simp)), ?_⟩, fun k hk => if_neg hk⟩
  · show (fs ++ [s]).length = (st.f ++ [c]).length
    rw [List.length_append, List.length_append, h.fl]; rfl
  · intro j s' c' a b
    have b : (st.f ++ [c])[j]? = some c' := b
    by_cases hj : j < st.f.length
    · rw [List.getElem?_append_left hj] at b
      rw [List.getElem?_append_left (by rw [h.fl]; exact hj)] at a
      exact mv (((h.fc j s' c' a b).chg hc (by simp)).chg c1 (by simp))
    · have hl := lt_of b
      rw [List.length_append, List.length_singleton] at hl
      have hj2 : j = st.f.length := by omega
      subst hj2
      have a2 : (fs ++ [s])[fs.length]? = some s' := by rw [h.fl]; exact a
      have e1 : s = s' := by simpa using a2
      have e2 : c = c' := by simpa using b
      subst e1 e2
      exact Kd.R_of_own (Kd.own_of_R hr1) fun k hk => by
        show (if s.v.ownBlock = some k then some (Role.cl m) else ow1 k) = some (Role.cl st.f.length)
        rw [if_pos hk, hm]
  · intro k hk
    have ht := c1.top (hc.top h.top) k hk
    show (if s.v.ownBlock = some k then some (.cl m) else ow1 k) = none
    rw [if_neg (fun e => by have := Kd.R_lt hr1 k e; omega)]
    exact ht
end Go.Proofs.Ytnhpfdnhnocgjaa.S
/- made: walked over the relation. -/
namespace Go.Proofs.Ytnhpfdnhnocgjaa.S
open Go.RowKit Go.Proofs.Ytnhpfdnhnocgjaa.D Go.Proofs.Ytnhpfdnhnocgjaa.G Go.Proofs.Ytnhpfdnhnocgjaa.Lem Go.Proofs.YtnhpfdnhnocgjaaW.PrintWords Go.Proofs.YtnhpfdnhnocgjaaW.PrintLast Go.Proofs.YtnhpfdnhnocgjaaW.PrintMore
set_option linter.unusedVariables false
set_option linter.unusedSimpArgs false
def StartP (w : World) (B n : Nat) (W : World) : Prop := ∃ ow, Rep W ow B (st0 n) ∧ (∀ k, k < w.heap.size → ow k = none) ∧ Below w.heap.size w W
def MadeL (w : World) (B n : Nat) (F : List (List Int)) (i : Nat) (W : World) : Prop := ∃ st ow, MS n (F.take i) st ∧ Rep W ow B st ∧ (∀ k, k < w.heap.size → ow k = none) ∧ Below w.heap.size w W
def MadeP (w : World) (n : Nat) (F : List (List Int)) (e : Ending) (w' : World) : Prop := ∃ B b st ow, e = .returned (.tuple #[.pointer (some ⟨B, 0, none⟩), .bool b]) ∧ Rep w' ow B st ∧ (∀ k, k < w.heap.size → ow k = none) ∧ Below w.heap.size w w' ∧ (b = true → st.n = n ∧ st.f.length ≤ F.length ∧ RS F st.trail.length st [] true 0) ∧ (b = false → ∀ s, satF s F = true → False)
theorem four (w : World) (o1 o2 o3 o4 : Obj) : ((((w.alloc o1).alloc o2).alloc o3).alloc o4).drew.heap[w.heap.size]? = some o1 ∧ ((((w.alloc o1).alloc o2).alloc o3).alloc o4).drew.heap[w.heap.size + 1]? = some o2 ∧ ((((w.alloc o1).alloc o2).alloc o3).alloc o4).drew.heap[w.heap.size + 1 + 1]? = some o3 ∧ ((((w.alloc o1).alloc o2).alloc o3).alloc o4).drew.heap[w.heap.size + 1 + 1 + 1]? = some o4 ∧ Below w.heap.size w ((((w.alloc o1).alloc o2).alloc o3).alloc o4).drew := by
  have e1 : (w.alloc o1).heap.size = w.heap.size + 1 := by simp
  have e2 : ((w.alloc o1).alloc o2).heap.size = w.heap.size + 1 + 1 := by simp
  have e3 : (((w.alloc o1).alloc o2).alloc o3).heap.size = w.heap.size + 1 + 1 + 1 := by simp
  have b1 := blk_new w o1
  have b2 := blk_new (w.alloc o1) o2
  have b3 := blk_new ((w.alloc o1).alloc o2) o3
  have b4 := blk_new (((w.alloc o1).alloc o2).alloc o3) o4
  rw [e1] at b2
  rw [e2] at b3
  rw [e3] at b4
  exact ⟨blk_drew (blk_alloc (blk_alloc (blk_alloc b1 _) _) _), blk_drew (blk_alloc (blk_alloc b2 _) _), blk_drew (blk_alloc b3 _), blk_drew b4, by repeat (first | exact Below.refl _ _ | apply below_drew | apply below_alloc)⟩
theorem start_of {w W : World} {B n : Nat} (hb : Below w.heap.size w W) (h : ∃ ow, Rep W ow B (st0 n) ∧ ∀ k, k < w.heap.size → ow k = none) : StartP w B n W := by
  obtain ⟨ow, h1, h2⟩ := h
  exact ⟨ow, h1, h2, hb⟩
theorem row1 {w : World} {base : Nat} {ok : Nat → Prop} {v : Value} {x : Int} (h : Kd.R (Kd.int .i64) 3 w base ok v [x]) : ∃ g cap, v = .slice (some ⟨g, 0, none⟩) 1 cap ∧ base ≤ g ∧ w.cell? ⟨g, 0, none⟩ = some (.int .i64 x) := by
  obtain ⟨g, cap, rfl, hg, _⟩ := Kd.R_form h (by simp)
  exact ⟨g, cap, rfl, hg, (Kd.R_celln 0 h 0 (by omega) (by simp)).1⟩
theorem row2 {w : World} {base : Nat} {ok : Nat → Prop} {v : Value} {x y : Int} {r : List Int} (h : Kd.R (Kd.int .i64) 3 w base ok v (x :: y :: r)) : ∃ g cap, v = .slice (some ⟨g, 0, none⟩) (r.length + 2) cap ∧ base ≤ g ∧ w.cell? ⟨g, 0, none⟩ = some (.int .i64 x) ∧ w.cell? ⟨g, 1, none⟩ = some (.int .i64 y) := by
  obtain ⟨g, cap, rfl, hg, _⟩ := Kd.R_form h (by simp)
  exact ⟨g, cap, rfl, hg, (Kd.R_celln 0 h 0 (by omega) (by rw [List.length_cons, List.length_cons]; omega)).1, (Kd.R_celln 0 h 1 (by omega) (by rw [List.length_cons, List.length_cons]; omega)).1⟩
/-- A clause is being put in. -/
def Mid (w : World) (B : Nat) (st : St) (v0 : Value) (rr : List Int) (vf : Value) (fs : List SL) (W : World) : Prop := ∃ ow vi vv vs vt is, Rp W ow B st vf vi vv vs vt fs is ∧ Free W ow v0 rr ∧ (∀ k, k < w.heap.size → ow k = none) ∧ Below w.heap.size w W
section
variable {w W : World} {B : Nat} {st : St} {v0 : Value} {rr : List Int} {vf : Value} {fs : List SL}
theorem Mid.below {W1 : World} (h : Mid w B st v0 rr vf fs W) (hb : Below W.heap.size W W1) : Mid w B st v0 rr vf fs W1 := by
  obtain ⟨ow, vi, vv, vs, vt, is, h1, h2, h3, h4⟩ := h
  exact ⟨ow, vi, vv, vs, vt, is, h1.below hb, Kd.R_below h2 hb, h3, h4.trans (hb.mono h4.size)⟩
theorem Mid.cells {g cap m2 : Nat} {a b : Int} {r : List Int} (h : Mid w B st (.slice (some ⟨g, 0, none⟩) m2 cap) (a :: b :: r) vf fs W) : W.cell? ⟨B, 1, none⟩ = some vf ∧ W.cell? ⟨g, 0, none⟩ = some (.int .i64 a) ∧ W.cell? ⟨g, 1, none⟩ = some (.int .i64 b) := by
  obtain ⟨ow, vi, vv, vs, vt, is, h1, h2, h3, h4⟩ := h
  obtain ⟨g', cap', e, _, x0, x1⟩ := row2 h2
  injection e with e _ _
  injection e with e
  injection e with e _ _
  subst e
  exact ⟨(cells51 h1).2.1, x0, x1⟩
theorem Mid.watch (h : Mid w B st v0 rr vf fs W) (hi : st.inn.length = 2 * st.n + 2) (hn : st.n ≤ 65536) {v : Int} (hv : okL st.n v) (i : Nat) (hl : (st.row v).length ≤ 5864062014804) :
    Calls Try.prog 27 #[.pointer (some ⟨B, 0, none⟩), .int .i64 v, .int .i64 (i : Int)] W fun e w' => e = .returned (.tuple #[]) ∧ Mid w B { st with inn := st.inn.set (pl v) (st.row v ++ [i]) } v0 rr vf fs w' := by
  obtain ⟨ow, vi, vv, vs, vt, is, h1, h2, h3, h4⟩ := h
  refine (watch27 h1 hi hn hv i hl).mono ?_
  rintro e w' ⟨he, ow', s2, hf, hr⟩
  exact ⟨he, ow', vi, vv, vs, vt, _, hr, h2.fr hf, fun k hk => (hf.own k (Nat.lt_of_lt_of_le hk h4.size)).trans (h3 k hk), h4.trans (hf.below h4.size h3)⟩
end
theorem info37 : (Try.prog.info? 37).map (fun i => (i.zero, i.size, i.bytes)) = some (some (.slice none 0 0), 1, 24) := by kernel_rfl
theorem MadeL.none {n : Nat} {F : List (List Int)} {i : Nat} {st : St} {c : List Int} (hc : F[i]? = some c) (hm : MS n (F.take i) st) (hs : ∀ s, Ext s st.trail → satC s c = true → False) : ∀ s, satF s F = true → False := by
  intro s h
  have := satF_take (i + 1) h
  rw [take_get hc, satF_snoc, hm.sem] at this
  exact hs s this.1.2 this.2
set_option maxRecDepth 100000 in
set_option maxHeartbeats 4000000 in
theorem made19 {w : World} (n : Nat) (A : Option Addr) (c : Nat) (F : List (List Int)) (hF : Kd.C (Kd.slice 3 (Kd.int .i64)) w A F.length F) (hc : F.length ≤ c) (hn : n ≤ 65536) (hlen : F.length ≤ 5864062014804) (hok : ∀ d ∈ F, ∀ x ∈ d, okL n x) (hl : ∀ d ∈ F, d.length < 17592186044416) :
    Calls Try.prog 19 #[.int .i64 (n : Int), .slice A F.length c] w (MadeP w n F) := by
  have p1 : IntKind.i64.wrap ((n : Int) + 1) = n + 1 := IntWalk.i64_in _ (by omega)
  have p2 : IntKind.i64.wrap (2 * (n : Int)) = 2 * n := IntWalk.i64_in _ (by omega)
  have p3 : IntKind.i64.wrap (2 * (n : Int) + 2) = 2 * n + 2 := IntWalk.i64_in _ (by omega)
  have hmkb : ∀ W : World, (Instr.makeSlice 25 (.int .i64 ((n : Int) + 1)) (.int .i64 ((n : Int) + 1))).run Try.prog W = .ok (.slice (some ⟨W.heap.size, 0, none⟩) (n + 1) (n + 1)) (W.alloc (.cells (madeCells #[.bool false] (n + 1)) 4)) := fun W => run_make_row' (P := Try.prog) 25 4 (.bool false) 1 Try.underlying25 P.info4 rfl .i64 .i64 (n + 1) (by omega) (by omega) W
  have hmki : ∀ W : World, (Instr.makeSlice 22 (.int .i64 (2 * (n : Int) + 2)) (.int .i64 (2 * (n : Int) + 2))).run Try.prog W = .ok (.slice (some ⟨W.heap.size, 0, none⟩) (2 * n + 2) (2 * n + 2)) (W.alloc (.cells (madeCells #[.slice none 0 0] (2 * n + 2)) 37)) := fun W => run_make_row' (P := Try.prog) 22 37 (.slice none 0 0) 24 Try.underlying22 (by kernel_rfl) rfl .i64 .i64 (2 * n + 2) (by omega) (by omega) W
  have HF := Aside0.mk (And.intro hF (And.intro hc (And.intro hok hl)))
  clear hF hc hok hl
  obtain ⟨nF, hnF⟩ : ∃ m, F.length = m := ⟨_, rfl⟩
  rw [hnF] at hlen
  have HNF := Aside0.mk hnF
  rw [hnF]
  clear hnF
  go_enter Try.func19, Try.ntmps19
  go_upto_region 1 with fail
  go_cut [6] (fun v6 wc => ∃ B : Nat, v6 = .pointer (some ⟨B, 0, none⟩) ∧ Aside0 (StartP w B n wc))
  case first =>
    go_region
    all_goals
      go_wp2_with fail
      go_meet
      refine ⟨_, rfl, ⟨?_⟩⟩
      refine start_of (four w _ _ _ _).2.2.2.2 ?_
      refine Rep.start hn (four w _ _ _ _).2.2.2.1 ?_ ?_ ?_ ?_ ?_ ?_ ?_ ?_
      all_goals first | omega | exact (four w _ _ _ _).1 | exact (four w _ _ _ _).2.1 | exact (four w _ _ _ _).2.2.1
  case rest =>
    obtain ⟨B, rfl, HS⟩ := hcut
    clear p1 p2 p3 hmkb hmki
    have H0 : Aside0 (MadeL w B n F 0 wc) := ⟨by
      obtain ⟨ow, h1, h2, h3⟩ := HS.out
      exact ⟨_, ow, MS.start n, h1, h2, h3⟩⟩
    have HN := Aside0.mk hn
    clear HS hn
    go_wp2_with fail
    go_loopg [26] nF (fun kq v26 wr => ∃ i : Nat, v26 = .int .i64 (i : Int) ∧ i + kq = nF ∧ Aside0 (MadeL w B n F i wr))
    case atStart => exact ⟨0, rfl, by omega, H0⟩
    case round =>
      clear H0
      obtain ⟨i, rfl, hi, HM⟩ := hrel
      by_cases hlt : (i : Int) < (nF : Int)
      · obtain ⟨kq, rfl⟩ : ∃ k, gk = k + 1 := ⟨gk - 1, by omega⟩
        have hw : IntKind.i64.wrap ((i : Int) + 1) = ((i + 1 : Nat) : Int) := by rw [IntWalk.i64_in _ (by omega)]; rfl
        have hb0 : (0 : Int) ≤ (i : Int) := by omega
        have hiF : i < F.length := by rw [HNF.out]; omega
        obtain ⟨st, ow, h1, h2, h3, h4⟩ := HM.out
        obtain ⟨ad, A0, c0, eA, hcell, hle, hK⟩ := P.at_L1 (Kd.C_below HF.out.1 h4) (i : Int) hb0 (by omega)
        subst eA
        rw [Int.toNat_natCast] at hcell
        obtain ⟨d, hd⟩ : ∃ d, P.rd_L1 F (i : Int) = d := ⟨_, rfl⟩
        rw [hd] at hcell hle hK
        have hget : F[i]? = some d := by
          rw [← hd]
          unfold P.rd_L1
          rw [Int.toNat_natCast, List.getD_eq_getElem?_getD, List.getElem?_eq_getElem hiF]; rfl
        have hmem : d ∈ F := List.mem_iff_getElem?.2 ⟨i, hget⟩
        have hcs := norm_cases HN.out (HF.out.2.2.1 d hmem)
        have HNM := Aside0.mk (fun r1 r2 => clause_normal wr A0 c0 d hK hle (HF.out.2.2.2 d hmem) r1 r2)
        have HQ := Aside0.mk (And.intro h1 (And.intro h2 (And.intro h3 h4)))
        have HG := Aside0.mk hget
        have hsz := Aside0.mk h4.size
        clear h1 h2 h3 h4 hle hK hd hmem hget hiF HM
        obtain ⟨nd, hnd⟩ : ∃ m, d.length = m := ⟨_, rfl⟩
        rw [hnd] at hcell HNM
        clear hnd
        rcases hcs with ⟨r1, hr, hs⟩ | ⟨hr, hs⟩ | ⟨x, hr, hx, hs⟩ | ⟨a, b, r, hr, hcl, hs⟩
        · have HC := Aside0.mk (HNM.out r1 true hr)
          have HSS := Aside0.mk hs
          clear HNM hr hs
          go_wp2_with (go_at_call 25; refine HC.out.mono ?_; rintro e w1 ⟨v0, rfl, hR, hB⟩; have HB := Aside0.mk hB; clear hR hB)
          go_roundg kq
          case measure => omega
          case rel => exact ⟨i + 1, rfl, by omega, ⟨st, ow, by rw [take_get HG.out]; exact HQ.out.1.same fun s _ => HSS.out s, HQ.out.2.1.below HB.out, HQ.out.2.2.1, HQ.out.2.2.2.trans (HB.out.mono hsz.out)⟩⟩
        · have HC := Aside0.mk (HNM.out [] false hr)
          have HSS := Aside0.mk hs
          clear HNM hr hs
          go_wp2_with (go_at_call 25; refine HC.out.mono ?_; rintro e w1 ⟨v0, rfl, hR, hB⟩; have HB := Aside0.mk hB; obtain ⟨A1, c1, rfl⟩ := Kd.R_slice hR; clear hR hB)
          go_ret2
          exact ⟨B, false, st, ow, rfl, HQ.out.2.1.below HB.out, HQ.out.2.2.1, HQ.out.2.2.2.trans (HB.out.mono hsz.out), (fun e => nomatch e), fun _ => MadeL.none HG.out HQ.out.1 fun s _ h => by rw [HSS.out s] at h; cases h⟩
        · have HC := Aside0.mk (HNM.out [x] false hr)
          have HSS := Aside0.mk hs
          have HX := Aside0.mk hx
          obtain ⟨kn, hkn⟩ : ∃ b, st.known x = b := ⟨_, rfl⟩
          obtain ⟨on, hon⟩ : ∃ b, st.on x = b := ⟨_, rfl⟩
          have HK := Aside0.mk (And.intro hkn hon)
          have HND : Aside0 (∀ w1, Below wr.heap.size wr w1 → Calls Try.prog 26 #[.pointer (some ⟨B, 0, none⟩), .int .i64 x] w1 fun e w' => e = .returned (.bool (!kn || on)) ∧ ∃ ow', Fr ow ow' w1 w' ∧ Rep w' ow' B (if kn then st else st.assign x)) := ⟨fun w1 hb => by
            obtain ⟨vf, vi, vv, vs, vt, fs, is, h⟩ := HQ.out.2.1.below hb
            have hT := HQ.out.1.tr
            have hn := HQ.out.1.n
            have hN := HN.out
            have hlt := hT.len
            have := need26 h hT (by rw [hn]; exact hN) (by omega) (v := x) (by rw [hn]; exact hx)
            rw [hkn, hon] at this
            refine this.mono ?_
            rintro e w2 ⟨he, ow', vt', hf, hr⟩
            exact ⟨he, ow', hf, _, _, _, _, _, _, _, hr⟩⟩
          clear HNM hr hs hx hkn hon
          cases kn with
          | false =>
            go_wp2_with (first
              | (go_at_call 26; refine (HND.out _ HB.out).mono ?_; rintro e w2 ⟨rfl, hq⟩; have HR2 := Aside0.mk hq; clear hq)
              | (go_at_call 25; refine HC.out.mono ?_; rintro e w1 ⟨v0, rfl, hR, hB⟩; have HB := Aside0.mk hB; obtain ⟨g, cap, rfl, hg, hx0⟩ := row1 hR; clear hR hB hg))
            go_roundg kq
            case measure => omega
            case rel =>
              obtain ⟨ow', hf, hr⟩ := HR2.out
              have hb1 := HQ.out.2.2.2.trans (HB.out.mono hsz.out)
              exact ⟨i + 1, rfl, by omega, ⟨st.assign x, ow', by rw [take_get HG.out]; exact HQ.out.1.unit HX.out HSS.out HK.out.1, hr, fun k hk => (hf.own k (by have := hb1.size; omega)).trans (HQ.out.2.2.1 k hk), hb1.trans (hf.below hb1.size HQ.out.2.2.1)⟩⟩
          | true =>
            cases on with
            | true =>
              go_wp2_with (first
                | (go_at_call 26; refine (HND.out _ HB.out).mono ?_; rintro e w2 ⟨rfl, hq⟩; have HR2 := Aside0.mk hq; clear hq)
                | (go_at_call 25; refine HC.out.mono ?_; rintro e w1 ⟨v0, rfl, hR, hB⟩; have HB := Aside0.mk hB; obtain ⟨g, cap, rfl, hg, hx0⟩ := row1 hR; clear hR hB hg))
              go_roundg kq
              case measure => omega
              case rel =>
                obtain ⟨ow', hf, hr⟩ := HR2.out
                have hb1 := HQ.out.2.2.2.trans (HB.out.mono hsz.out)
                exact ⟨i + 1, rfl, by omega, ⟨st, ow', by rw [take_get HG.out]; exact HQ.out.1.same fun s hs => by rw [HSS.out]; exact hs x ((on_iff HQ.out.1.tr HX.out.1 HK.out.1).1 HK.out.2), hr, fun k hk => (hf.own k (by have := hb1.size; omega)).trans (HQ.out.2.2.1 k hk), hb1.trans (hf.below hb1.size HQ.out.2.2.1)⟩⟩
            | false =>
              go_wp2_with (first
                | (go_at_call 26; refine (HND.out _ HB.out).mono ?_; rintro e w2 ⟨rfl, hq⟩; have HR2 := Aside0.mk hq; clear hq)
                | (go_at_call 25; refine HC.out.mono ?_; rintro e w1 ⟨v0, rfl, hR, hB⟩; have HB := Aside0.mk hB; obtain ⟨g, cap, rfl, hg, hx0⟩ := row1 hR; clear hR hB hg))
              go_ret2
              obtain ⟨ow', hf, hr⟩ := HR2.out
              have hb1 := HQ.out.2.2.2.trans (HB.out.mono hsz.out)
              exact ⟨B, false, st, ow', rfl, hr, fun k hk => (hf.own k (by have := hb1.size; omega)).trans (HQ.out.2.2.1 k hk), hb1.trans (hf.below hb1.size HQ.out.2.2.1), (fun e => nomatch e), fun _ => MadeL.none HG.out HQ.out.1 fun s hs h => by
                rw [HSS.out s] at h
                have h2 := hs (-x) ((off_iff HQ.out.1.tr HX.out.1 HK.out.1).1 HK.out.2)
                rw [lit_neg s HX.out.1, h] at h2
                cases h2⟩
        · have HC := Aside0.mk (HNM.out (a :: b :: r) false hr)
          have HSS := Aside0.mk hs
          have HCL := Aside0.mk hcl
          obtain ⟨m, hm⟩ : ∃ m, st.f.length = m := ⟨_, rfl⟩
          have HM := Aside0.mk hm
          have oa : okL n a := hcl.ok a (by simp)
          have ob : okL n b := hcl.ok b (by simp)
          have HOK := Aside0.mk (And.intro oa ob)
          have hab : a ≠ b := by
            intro e
            have := hcl.nd
            rw [e] at this
            simp at this
          have HAB := Aside0.mk hab
          have hmle : m ≤ nF := by have := HQ.out.1.m; rw [hm] at this; rw [List.length_take] at this; omega
          obtain ⟨m2, hm2⟩ : ∃ m2, r.length + 2 = m2 := ⟨_, rfl⟩
          have e0 : ((m2 : Int) == 0) = false := beq_eq_false_iff_ne.mpr (by omega)
          have e1 : ((m2 : Int) == 1) = false := beq_eq_false_iff_ne.mpr (by omega)
          have e2 : (0 : Int) < (m2 : Int) := by omega
          have e3 : (1 : Int) < (m2 : Int) := by omega
          have e2n : 0 < m2 := by omega
          have HM2 := Aside0.mk hm2
          clear HNM hr hs hcl hm oa ob hab hm2
          go_wp2_with (go_at_call 25; refine HC.out.mono ?_; rintro e w1 ⟨v0, rfl, hR, hB⟩; have HB := Aside0.mk hB; have HRW := Aside0.mk hR; obtain ⟨g, cap, rfl, hg, hx0, hx1⟩ := row2 hR; have HGG := Aside0.mk hg; rw [HM2.out]; clear hR hB hg)
          have HMD : Aside0 (∃ vf fs, fs.length = m ∧ Mid w B st (.slice (some ⟨g, 0, none⟩) m2 cap) (a :: b :: r) vf fs w1) := ⟨by
            obtain ⟨vf, vi, vv, vs, vt, fs, is, h⟩ := HQ.out.2.1
            have hR := HRW.out
            rw [HM2.out] at hR
            exact ⟨vf, fs, h.fl.trans HM.out, ow, vi, vv, vs, vt, is, h.below HB.out, Free.of hR h.top, HQ.out.2.2.1, HQ.out.2.2.2.trans (HB.out.mono hsz.out)⟩⟩
          obtain ⟨vf, fs, hfl, hMD⟩ := HMD.out
          obtain ⟨Af, cf, rfl⟩ : ∃ Af cf, vf = .slice Af m cf := by
            obtain ⟨ow1, _, _, _, _, _, h, _⟩ := hMD
            obtain ⟨A, c, e⟩ := Kd.R_slice h.f
            exact ⟨A, c, by rw [e, hfl]⟩
          have D1 := Aside0.mk hMD
          have HFL := Aside0.mk hfl
          have HN1 := HQ.out.1.n
          have hrl : ∀ (u : Int), okL n u → (st.row u).length ≤ 5864062014804 := fun u hu => by
            have := HQ.out.1.wa.rowlen (u := u) (by rw [HN1]; exact hu)
            rw [HM.out] at this
            omega
          have HW1 : Aside0 (∀ W, Below w1.heap.size w1 W → Calls Try.prog 27 #[.pointer (some ⟨B, 0, none⟩), .int .i64 a, .int .i64 (m : Int)] W fun e w' => e = .returned (.tuple #[]) ∧ Mid w B { st with inn := st.inn.set (pl a) (st.row a ++ [m]) } (.slice (some ⟨g, 0, none⟩) m2 cap) (a :: b :: r) (.slice Af m cf) fs w') := ⟨fun W hb => (D1.out.below hb).watch HQ.out.1.wa.hi (by rw [HN1]; exact HN.out) (by rw [HN1]; exact HOK.out.1) m (hrl a HOK.out.1)⟩
          have HW2 : Aside0 (∀ W, Mid w B { st with inn := st.inn.set (pl a) (st.row a ++ [m]) } (.slice (some ⟨g, 0, none⟩) m2 cap) (a :: b :: r) (.slice Af m cf) fs W → Calls Try.prog 27 #[.pointer (some ⟨B, 0, none⟩), .int .i64 b, .int .i64 (m : Int)] W fun e w' => e = .returned (.tuple #[]) ∧ Mid w B (({ ({ st with inn := st.inn.set (pl a) (st.row a ++ [m]) } : St) with inn := (st.inn.set (pl a) (st.row a ++ [m])).set (pl b) (({ st with inn := st.inn.set (pl a) (st.row a ++ [m]) } : St).row b ++ [m]) } : St)) (.slice (some ⟨g, 0, none⟩) m2 cap) (a :: b :: r) (.slice Af m cf) fs w') := ⟨fun W h => h.watch (by show (st.inn.set _ _).length = _; rw [List.length_set]; exact HQ.out.1.wa.hi) (by show st.n ≤ _; rw [HN1]; exact HN.out) (by show okL st.n b; rw [HN1]; exact HOK.out.2) m (by
            have e : ({ st with inn := st.inn.set (pl a) (st.row a ++ [m]) } : St).row b = st.row b := by
              show (st.inn.set (pl a) (st.row a ++ [m])).getD (pl b) [] = _
              rw [D.getD_set_ne (fun e => HAB.out (pl_inj e))]
              rfl
            rw [e]
            exact hrl b HOK.out.2)⟩
          obtain ⟨x1, x2, x3⟩ := D1.out.cells
          clear hx0 hx1 hMD hfl hrl HN1 HMD HRW HC
          go_region_held3 (fun W => W.cell? ⟨B, 1, none⟩ = some (.slice Af m cf) ∧ W.cell? ⟨g, 0, none⟩ = some (.int .i64 a))
            (first | exact ⟨y1, y2⟩ | exact ⟨x1, x2⟩)
            (first | (go_at_call 27; refine (HW1.out _ ?hb).mono ?_; (case hb => (repeat (first | exact Below.refl _ _ | apply pw_below_drewN | apply below_drew))); rintro e w2 ⟨rfl, hq⟩; have D2 := Aside0.mk hq; obtain ⟨y1, y2, y3⟩ := hq.cells; clear hq))
          all_goals
            have HY := Aside0.mk (And.intro y1 y2)
            clear x1 x2 x3 y2
            go_wp2_with fail
            go_region_held3 (fun W => W.cell? ⟨B, 1, none⟩ = some (.slice Af m cf) ∧ W.cell? ⟨g, 1, none⟩ = some (.int .i64 b))
              (first | exact ⟨z1, z3⟩ | exact ⟨y1, y3⟩)
              (first | (go_at_call 27; refine (HW2.out _ ?hb).mono ?_; (case hb => first | exact D2.out | exact D2.out.below (by repeat (first | exact Below.refl _ _ | apply pw_below_drewN | apply below_drew))); rintro e w3 ⟨rfl, hq⟩; have D3 := Aside0.mk hq; obtain ⟨z1, z2, z3⟩ := hq.cells; clear hq))
            all_goals
              clear y1 y3 z2 z3 HY
              obtain ⟨ow3, vi3, vv3, vs3, vt3, is3, r3, f3, o3, b3⟩ := D3.out
              have R3 := Aside0.mk (And.intro r3 (And.intro f3 (And.intro o3 b3)))
              clear r3 f3 o3 b3
              go_wp2_with (at_builtin; refine or_append (enc := SL.v) (h1 := fun _ => rfl) rfl (.tmp 59) (.tmp 61) rfl Try.underlying22 info37 rfl (by decide) (ow := ow3) (r := .f) (.slice Af m cf) fs ⟨some ⟨g, 0, none⟩, m2, cap⟩ rfl rfl R3.out.1.f (by rw [HFL.out]; omega) R3.out.1.top ?_; intro v4 w4 ow4 t4 g4; have T4 := Aside0.mk t4; have G4 := Aside0.mk g4; have bx := box_chg R3.out.1.box R3.out.1.bo g4 (by simp); have q1 : w4.cell? ⟨B, 1, none⟩ = some (.slice Af m cf) := (blk_cell bx.1 1).trans rfl; have q2 := blk_frozen bx.1 1; obtain ⟨A4, c4, rfl⟩ := Kd.R_slice t4; have BX := Aside0.mk bx; clear t4 g4 bx)
              go_roundg kq
              case measure => omega
              case rel =>
                refine ⟨i + 1, rfl, by omega, ⟨?_⟩⟩
                obtain ⟨r3, f3, o3, b3⟩ := R3.out
                have t4 := T4.out
                obtain ⟨ow5, h5, k5⟩ := r3.newF (s := ⟨some ⟨g, 0, none⟩, m2, cap⟩) G4.out t4 f3
                have hc : Chg ow4 ow4 w4 (w4.setCell ⟨B, 1, none⟩ (.slice A4 (fs ++ [(⟨some ⟨g, 0, none⟩, m2, cap⟩ : SL)]).length c4)) .box := Chg.set BX.out.2 1 _
                have hff := G4.out.fr.trans hc.fr
                rw [← HM.out] at h5
                refine ⟨st.put a b (a :: b :: r), ow5, ?_, ?_, fun k hk => ?_, ?_⟩
                · rw [take_get HG.out]
                  exact HQ.out.1.put HCL.out rfl rfl HSS.out
                · rw [put_eq HAB.out]
                  rw [List.length_append, List.length_singleton] at h5
                  exact ⟨_, _, _, _, _, _, _, h5⟩
                · rw [k5 k (by
                    show (SL.v ⟨some ⟨g, 0, none⟩, m2, cap⟩).ownBlock ≠ some k
                    have hz := hsz.out
                    have hg := HGG.out
                    intro e
                    have : g = k := by simpa [SL.v, Value.ownBlock] using e
                    omega)]
                  exact (hff.own k (by have := b3.size; omega)).trans (o3 k hk)
                · have := b3.trans (hff.below b3.size o3)
                  rw [List.length_append, List.length_singleton] at this
                  exact this
      · obtain rfl : i = nF := by omega
        have HM2 : Aside0 (∃ st ow, MS n F st ∧ Rep wr ow B st ∧ (∀ k, k < w.heap.size → ow k = none) ∧ Below w.heap.size w wr) := ⟨by
          obtain ⟨st, ow, h1, h2, h3, h4⟩ := HM.out
          rw [List.take_of_length_le (by rw [HNF.out]; exact Nat.le_refl _)] at h1
          exact ⟨st, ow, h1, h2, h3, h4⟩⟩
        clear HM
        obtain ⟨st, ow, h1, h2, h3, h4⟩ := HM2.out
        have HC := propagate28 h2 h1.tr h1.wa ⟨by rw [h1.n]; exact HN.out, by have := h1.m; rw [HNF.out] at this; omega⟩ (by rw [h1.head]; exact Nat.zero_le _)
        have HCA := Aside0.mk HC
        have HQ := Aside0.mk (And.intro h1 (And.intro h3 h4))
        clear HC h1 h2 h3 h4 HM2
        go_wp2_with (go_at_call 28; refine HCA.out.mono ?_; rintro e w1 ⟨st', r, ow', rfl, hp, hf, hr⟩; have HP := Aside0.mk (And.intro hp (And.intro hf hr)); clear hp hf hr)
        go_ret2
        obtain ⟨hp, hf, hr⟩ := HP.out
        obtain ⟨h1, h3, h4⟩ := HQ.out
        have hsz := h4.size
        refine ⟨B, r, st', ow', rfl, hr, fun k hk => (hf.own k (by omega)).trans (h3 k hk), h4.trans (hf.below hsz h3), ?_, ?_⟩
        · rintro rfl
          exact ⟨hp.n.trans h1.n, by rw [← hp.pf.1]; exact h1.m, h1.fin HN.out (by rw [HNF.out]; exact hlen) hp⟩
        · rintro rfl
          exact h1.none hp
end Go.Proofs.Ytnhpfdnhnocgjaa.S
