/- Joined by a program of this session out of: GNormA, GNorm, NormEq. -/
import Derived.Test.YtnhpfdnhnocgjaaProg
import Derived.Below
import Derived.Deep.Draws
import Derived.Deep.AppendLies
import Derived.Maps.AppendAt
import Derived.OwnWalk
import Derived.Laws.BytesArg
import Derived.Laws.MakeOwn
import Derived.Laws.OwnMore
import Derived.Deep.OwnRows
import Derived.Tactics
import Derived.Lib.ConvBytes
import Derived.Laws.Slices
import Derived.WalkKit
import Derived.WalkSpells
import Derived.KernelRfl
import Derived.RowKit3
import Derived.Deep.LoopGhost
import Derived.Deep.QuietTactic
import Derived.BigQuiet
import Derived.WideLaws
import Derived.Deep.DeepCutAuto
import Derived.Deep.CutBlock
import Derived.Deep.RegionHeld3
import Derived.Laws.Rows
import Derived.Lib.AppendStr
import Derived.ArgAppend
import Derived.Laws.IdiomCopy
import Derived.OrdersHeld
import Derived.Laws.BitsLemmas
import Derived.RowKit
import Derived.Test.YtnhpfdnhnocgjaaWMore
import Derived.Test.YtnhpfdnhnocgjaaWInvWords
import Derived.Test.YtnhpfdnhnocgjaaWGuard
import Derived.Test.YtnhpfdnhnocgjaaWNEv
import Derived.Test.YtnhpfdnhnocgjaaGCmp
import Derived.Test.YtnhpfdnhnocgjaaShelf
/- clause.Normal, walked by hand over the contracts of slices.DeleteFunc, slices.SortFunc and slices.Compact. -/
namespace Go.Proofs.Ytnhpfdnhnocgjaa.G
set_option linter.unusedVariables false
set_option linter.unusedSimpArgs false
open Go.RowKit Go.Proofs.YtnhpfdnhnocgjaaW.PrintWords Go.Proofs.YtnhpfdnhnocgjaaW.PrintLast Go.Proofs.YtnhpfdnhnocgjaaW.PrintMore
open Go.Lib
open Go.Sort (putRow putCells mapBlock onCells grow heap_grow_old SWO Holds)
/-- Two neighbours that say the opposite. -/
def clash (r : List Int) : Bool := (List.range r.length).any fun i => decide (0 < i) && (r.getD i 0 == wrap64 (-(r.getD (i - 1) 0)))
def endN (out : List Int) : List Int × Bool := if clash out = true then ([], true) else (out, false)
theorem clash_at {r : List Int} {i : Int} (h0 : 0 < i) (h1 : i < r.length) (h : rdOf 0 r i = wrap64 (-(rdOf 0 r (i - 1)))) : clash r = true := by
  unfold clash
  rw [List.any_eq_true]
  refine ⟨i.toNat, by rw [List.mem_range]; omega, ?_⟩
  unfold rdOf at h
  rw [Bool.and_eq_true]
  refine ⟨decide_eq_true (by omega), ?_⟩
  rw [show (i - 1).toNat = i.toNat - 1 by omega] at h
  exact beq_iff_eq.2 h
theorem clash_no {r : List Int} (h : ∀ i : Int, 0 < i → i < r.length → rdOf 0 r i ≠ wrap64 (-(rdOf 0 r (i - 1)))) : clash r = false := by
  unfold clash
  rw [List.any_eq_false]
  intro i hi
  rw [List.mem_range] at hi
  rw [Bool.and_eq_true]
  rintro ⟨h1, h2⟩
  have h1 := of_decide_eq_true h1
  have h2 := beq_iff_eq.1 h2
  refine h i (by omega) (by omega) ?_
  unfold rdOf
  rw [show ((i : Int) - 1).toNat = i - 1 by omega, show (i : Int).toNat = i by omega]
  exact h2
/-- A row of one's own, by its block. -/
def OwnB (w : World) (g cap : Nat) (d : List Int) : Prop :=
  ∃ cur, w.heap[g]? = some (.cells cur 3 (0, 0)) ∧ d.length ≤ cap ∧ cap ≤ maxLen ∧ cur.size = cap ∧ cur.toList.take d.length = encs (Value.int .i64) d
theorem OwnB.lt {w : World} {g cap : Nat} {d : List Int} (h : OwnB w g cap d) : g < w.heap.size := by
  obtain ⟨cur, hg, _⟩ := h
  exact (Array.getElem?_eq_some_iff.1 hg).1
theorem OwnB.get {w : World} {g cap : Nat} {d : List Int} (h : OwnB w g cap d) : Holds (Value.int .i64) w g 0 d.toArray := by
  obtain ⟨cur, hg, hl, hm, hs, ht⟩ := h
  intro j hj
  have hj' : j < d.length := by simpa using hj
  have hc : cur[j]? = some (Value.int .i64 d[j]) := by
    have h1 : (cur.toList.take d.length)[j]? = (encs (Value.int .i64) d)[j]? := by rw [ht]
    rw [List.getElem?_take_of_lt hj'] at h1
    unfold encs at h1
    rw [List.getElem?_map, List.getElem?_eq_getElem hj'] at h1
    rw [← Array.getElem?_toList]; exact h1
  have e1 : d.toArray[j]! = d[j] := by rw [getElem!_pos d.toArray j (by simpa using hj')]; simp
  refine ⟨?_, ?_⟩
  · rw [e1, Nat.zero_add]
    unfold World.cell?
    rw [hg]
    simpa using hc
  · rw [Nat.zero_add]
    unfold World.frozen?
    rw [hg]
    simp
theorem OwnB.put {w : World} {g cap : Nat} {d d' : List Int} (h : OwnB w g cap d) (hl : d'.length = d.length) : OwnB (putRow (Value.int .i64) w g 0 d'.toArray) g cap d' := by
  obtain ⟨cur, hg, h1, hm, hs, ht⟩ := h
  refine ⟨putCells (Value.int .i64) 0 d'.toArray cur, ?_, by omega, hm, by unfold putCells; rw [Array.size_mapIdx]; exact hs, ?_⟩
  · unfold putRow mapBlock
    simp only [Array.getElem?_modify, if_true, hg, Option.map_some, onCells]
  · apply List.ext_getElem?
    intro j
    by_cases hj : j < d'.length
    · rw [List.getElem?_take_of_lt hj, Array.getElem?_toList]
      unfold putCells encs
      rw [Array.getElem?_mapIdx, Array.getElem?_eq_getElem (show j < cur.size by omega), List.getElem?_map, List.getElem?_eq_getElem hj]
      simp only [Option.map_some]
      rw [if_pos ⟨Nat.zero_le _, by simpa using hj⟩]
      congr 2
      rw [Nat.sub_zero, getElem!_pos d'.toArray j (by simpa using hj)]; simp
    · rw [List.getElem?_eq_none (by rw [List.length_take]; omega), List.getElem?_eq_none (by unfold encs; rw [List.length_map]; omega)]
theorem OwnB.cut {w : World} {g cap : Nat} {d z : List Int} (h : OwnB w g cap (d ++ z)) : OwnB w g cap d := by
  obtain ⟨cur, hg, h1, hm, hs, ht⟩ := h
  rw [List.length_append] at h1 ht
  refine ⟨cur, hg, by omega, hm, hs, ?_⟩
  have := congrArg (List.take d.length) ht
  rw [List.take_take, Nat.min_eq_left (by omega)] at this
  rw [this]
  unfold encs
  rw [List.map_append, List.take_append_of_le_length (by rw [List.length_map]; exact Nat.le_refl _), List.take_of_length_le (by rw [List.length_map]; exact Nat.le_refl _)]
theorem OwnB.same {w w1 : World} {g cap : Nat} {d : List Int} (h : OwnB w g cap d) (hs : w1.heap[g]? = w.heap[g]?) : OwnB w1 g cap d := by
  obtain ⟨cur, hg, r⟩ := h
  exact ⟨cur, hs.trans hg, r⟩
theorem OwnB.row {w : World} {g cap base : Nat} {d : List Int} (h : OwnB w g cap d) (hb : base ≤ g) : Kd.R (Kd.int .i64) 3 w base (fun _ => True) (.slice (some ⟨g, 0, none⟩) d.length cap) d := by
  obtain ⟨cur, hg, h1, hm, hs, ht⟩ := h
  refine Kd.R_of_own ⟨by unfold encs; rw [List.length_map, Nat.mul_one], .inr ⟨g, cap, cur, rfl, hb, hg, h1, hm, by rw [Nat.mul_one]; exact hs, by rw [Nat.mul_one]; exact ht⟩⟩ (fun _ _ => trivial)
theorem own_of {w : World} {base : Nat} {ok : Nat → Prop} {v : Value} {d : List Int} (h : Kd.R (Kd.int .i64) 3 w base ok v d) : (v = .slice none 0 0 ∧ d = []) ∨ ∃ g cap, v = .slice (some ⟨g, 0, none⟩) d.length cap ∧ base ≤ g ∧ OwnB w g cap d := by
  obtain ⟨h1, h2⟩ := Kd.own_of_R h
  rcases h2 with ⟨hv, hn⟩ | ⟨g, cap, cur, hv, hb, hg, hl, hm, hs, ht⟩
  · exact .inl ⟨hv, List.eq_nil_of_length_eq_zero hn⟩
  · exact .inr ⟨g, cap, hv, hb, cur, hg, hl, hm, by rw [Nat.mul_one] at hs; exact hs, by rw [Nat.mul_one] at ht; exact ht⟩
theorem below_put {B : Nat} {w0 w : World} (h : Below B w0 w) {g off : Nat} (hg : B ≤ g) (d : Array Int) : Below B w0 (putRow (Value.int .i64) w g off d) :=
  ⟨h.os, h.tape, h.output, by show w0.heap.size ≤ (w.heap.modify _ _).size; rw [Array.size_modify]; exact h.size, fun k hk => by
    have e : (putRow (Value.int .i64) w g off d).heap[k]? = w.heap[k]? := by
      unfold putRow mapBlock
      show (w.heap.modify _ _)[k]? = _
      rw [Array.getElem?_modify, if_neg (by omega)]
    rw [e]; exact h.block k hk⟩
theorem below_ahead {B : Nat} {w0 w : World} (h : Below B w0 w) (q : Nat) : Below B w0 (Sort.ahead w q) := ⟨h.os, h.tape, h.output, h.size, h.block⟩
theorem below_grow {B : Nat} {w0 w : World} (h : Below B w0 w) (hB : B ≤ w.heap.size) (os : Array Obj) : Below B w0 (grow w os) :=
  ⟨h.os, h.tape, h.output, by show w0.heap.size ≤ (w.heap ++ os).size; rw [Array.size_append]; have := h.size; omega, fun k hk => (heap_grow_old w os (by omega)).trans (h.block k hk)⟩
/-- What is kept, and how it is ordered. -/
def keepN (v : Int) : Bool := !decide (num v = 0)
def leN (x y : Int) : Bool := !ltOf cfN y x
def sortN (l : List Int) : List Int := (l.filter keepN).mergeSort leN
def normN (l : List Int) : List Int × Bool := endN (compactUpTo (sortN l).toArray (sortN l).length)
theorem ltN (x y : Int) : ltOf cfN x y = decide (num x < num y ∨ (num x = num y ∧ y < x)) := by
  unfold ltOf cfN cmpI
  by_cases h1 : num x < num y
  · simp [h1]
  · by_cases h2 : num y < num x
    · simp [h1, h2]; omega
    · have h3 : num x = num y := by omega
      by_cases h4 : y < x
      · simp [h3, h4]
      · by_cases h5 : x < y
        · simp [h3, h4, h5]
        · simp [h3, h4, h5]
theorem swoN : SWO (ltOf cfN) where
  irrefl x := by rw [ltN]; simp
  trans x y z h1 h2 := by rw [ltN] at *; simp at *; omega
  ntrans x y z h1 h2 := by rw [ltN] at *; simp at *; omega
theorem totN (x y : Int) (h1 : ltOf cfN x y = false) (h2 : ltOf cfN y x = false) : x = y := by rw [ltN] at *; simp at *; omega
theorem cells_i64 : OneCell (Value.int .i64) := fun _ => rfl
theorem enters34 : ∀ args w, (callFunc 34 args).run Try.prog w = .ok (.enter 34 args) w := enters_of Try.func34 (by kernel_rfl) rfl
theorem enters36 : ∀ args w, (callFunc 36 args).run Try.prog w = .ok (.enter 36 args) w := enters_of Try.func36 (by kernel_rfl) rfl
/-- slices.DeleteFunc at a row of one's own. -/
theorem del32 (w : World) (g cap : Nat) (d : List Int) (h : OwnB w g cap d) : Calls Try.prog 32 #[.slice (some ⟨g, 0, none⟩) d.length cap, .func (.func 34) #[] #[]] w fun e w' =>
    e = .returned (.slice (some ⟨g, 0, none⟩) (d.filter keepN).length cap) ∧ OwnB w' g cap (d.filter keepN) ∧ ∀ B w0, B ≤ g → Below B w0 w → Below B w0 w' := by
  have hsz : d.length ≤ cap := by obtain ⟨_, _, hl, _⟩ := h; exact hl
  have hm : cap ≤ maxLen := by obtain ⟨_, _, _, hm, _⟩ := h; exact hm
  have hcon := AnyE.slices_DeleteFunc Try.delL (Value.int .i64) cells_i64 (fun v => decide (num v = 0)) 34 #[] enters34 0 Try.zeroValue3 g 0 cap d.toArray w (fun W x _ => (clos34 x W).mono fun e w' ⟨he, hw⟩ => ⟨he, 0, hw⟩) (fun n os dk x _ => (clos34 x _).mono fun e w' ⟨he, hw⟩ => ⟨he, 0, hw⟩)
    h.get (by rw [List.size_toArray]; unfold maxLen at hm; omega) (by rw [List.size_toArray]; exact hsz)
  rw [List.size_toArray] at hcon
  change Calls Try.prog 32 #[.slice (some ⟨g, 0, none⟩) d.length cap, .func (.func 34) #[] #[]] w _ at hcon
  refine hcon.mono ?_
  rintro e w' ⟨he, q, hw⟩
  refine ⟨he, ?_, ?_⟩
  · rw [hw]
    refine OwnB.cut (z := List.replicate (d.length - (d.filter keepN).length) 0) ?_
    refine OwnB.put (d := d) (OwnB.same h rfl) ?_
    have := List.length_filter_le keepN d
    show ((d.filter keepN) ++ List.replicate (d.length - (d.filter keepN).length) 0).length = d.length
    rw [List.length_append, List.length_replicate]
    omega
  · intro B w0 hB hb
    rw [hw]
    exact below_put (below_ahead hb q) hB _
/-- slices.SortFunc at a row of one's own. -/
theorem sort35 (w : World) (g cap : Nat) (d : List Int) (h : OwnB w g cap d) (h62 : d.length < 4611686018427387904) : Calls Try.prog 35 #[.slice (some ⟨g, 0, none⟩) d.length cap, .func (.func 36) #[] #[]] w fun e w' =>
    e = .returned (.tuple #[]) ∧ OwnB w' g cap (d.mergeSort leN) ∧ ∀ B w0, B ≤ g → Below B w0 w → Below B w0 w' := by
  have hsz : d.length ≤ cap := by obtain ⟨_, _, hl, _⟩ := h; exact hl
  have hm : cap ≤ maxLen := by obtain ⟨_, _, _, hm, _⟩ := h; exact hm
  have hcon := Any.slices_SortFunc_total Try.sortL (Value.int .i64) cells_i64 cfN swoN 36 #[] g 0 cap d.toArray w enters36 (fun m os dk _ x y => clos36 x y _) h.get h.lt (by rw [List.size_toArray]; exact h62) totN
  rw [List.size_toArray] at hcon
  change Calls Try.prog 35 #[.slice (some ⟨g, 0, none⟩) d.length cap, .func (.func 36) #[] #[]] w _ at hcon
  refine hcon.mono ?_
  rintro e w' ⟨he, q, os, hw⟩
  have hsame : OwnB (putRow (Value.int .i64) (Sort.ahead w q) g 0 (d.mergeSort leN).toArray) g cap (d.mergeSort leN) := OwnB.put (d := d) (OwnB.same h rfl) (List.length_mergeSort d)
  refine ⟨he, ?_, ?_⟩
  · rw [hw]
    exact OwnB.same hsame (heap_grow_old _ os hsame.lt)
  · intro B w0 hB hb
    rw [hw]
    exact below_grow (below_put (below_ahead hb q) hB _) (Nat.le_trans hB (Nat.le_of_lt hsame.lt)) os
/-- slices.Compact at a row of one's own. -/
theorem comp39 (w : World) (g cap : Nat) (d : List Int) (h : OwnB w g cap d) : Calls Try.prog 39 #[.slice (some ⟨g, 0, none⟩) d.length cap] w fun e w' =>
    e = .returned (.slice (some ⟨g, 0, none⟩) (compactUpTo d.toArray d.length).length cap) ∧ OwnB w' g cap (compactUpTo d.toArray d.length) ∧ ∀ B w0, B ≤ g → Below B w0 w → Below B w0 w' := by
  have hsz : d.length ≤ cap := by obtain ⟨_, _, hl, _⟩ := h; exact hl
  have hm : cap ≤ maxLen := by obtain ⟨_, _, _, hm, _⟩ := h; exact hm
  have hcon := AnyE.slices_Compact Try.cpL (Value.int .i64) cells_i64 (EqlAt.intD _ _ _) (NeqAt.intD _ _ _) 0 Try.zeroValue3 g 0 cap d.toArray w h.get (by rw [List.size_toArray]; unfold maxLen at hm; omega) (by rw [List.size_toArray]; exact hsz)
  rw [List.size_toArray] at hcon
  change Calls Try.prog 39 #[.slice (some ⟨g, 0, none⟩) d.length cap] w _ at hcon
  refine hcon.mono ?_
  rintro e w' ⟨he, q, hw⟩
  have hle : (compactUpTo d.toArray d.length).length ≤ d.length := by
    unfold compactUpTo
    rw [List.length_map]
    have := List.length_filter_le (keeps d.toArray) (List.range d.length)
    rw [List.length_range] at this
    exact this
  refine ⟨he, ?_, ?_⟩
  · rw [hw]
    refine OwnB.cut (z := List.replicate (d.length - (compactUpTo d.toArray d.length).length) 0) ?_
    refine OwnB.put (d := d) (OwnB.same h rfl) ?_
    rw [List.length_append, List.length_replicate]
    omega
  · intro B w0 hB hb
    rw [hw]
    exact below_put (below_ahead hb q) hB _
end Go.Proofs.Ytnhpfdnhnocgjaa.G
/- clause.Normal, walked by hand. -/
namespace Go.Proofs.Ytnhpfdnhnocgjaa.G
set_option linter.unusedVariables false
set_option linter.unusedSimpArgs false
open Go.RowKit Go.Proofs.YtnhpfdnhnocgjaaW.PrintWords Go.Proofs.YtnhpfdnhnocgjaaW.PrintLast Go.Proofs.YtnhpfdnhnocgjaaW.PrintMore
open Go.Lib
set_option maxHeartbeats 200000 in
theorem index_nil (w : World) : Calls Try.prog 43 #[.slice none 0 0, .func (.func 34) #[] #[]] w fun e w' => e = .returned (.int .i64 (-1)) ∧ w' = w := by
  go_enter Try.func43, Try.ntmps43
  go_wp2
  refine wp_loop_rounds 1 ?_
  rw [rounds_succ]
  go_wp2
  go_ret
  exact ⟨rfl, rfl⟩
set_option maxHeartbeats 200000 in
theorem del_nil (w : World) : Calls Try.prog 32 #[.slice none 0 0, .func (.func 34) #[] #[]] w fun e w' => e = .returned (.slice none 0 0) ∧ w' = w := by
  go_enter Try.func32, Try.ntmps32
  go_wp2_with (go_at_call 43; refine (index_nil _).mono ?_; rintro e w' ⟨rfl, rfl⟩)
  go_ret
  exact ⟨rfl, rfl⟩
set_option maxHeartbeats 200000 in
theorem comp_nil (w : World) : Calls Try.prog 39 #[.slice none 0 0] w fun e w' => e = .returned (.slice none 0 0) ∧ w' = w := by
  go_enter Try.func39, Try.ntmps39
  go_wp2
  go_ret
  exact ⟨rfl, rfl⟩
theorem sort_nil (w : World) : Calls Try.prog 35 #[.slice none 0 0, .func (.func 36) #[] #[]] w fun e w' => e = .returned (.tuple #[]) ∧ w' = w := by
  have h := AnyF.slices_SortFunc_none (P := Try.prog) (ρ := Try.sortL_ren) { Try.sortL with } none 0 (.func (.func 36) #[] #[]) w
  exact h
set_option maxRecDepth 100000 in
set_option maxHeartbeats 1000000 in
theorem clause_normal (w : World) (A : Option Addr) (c : Nat) (l : List Int) (hr : Kd.C (Kd.int .i64) w A l.length l) (hc : l.length ≤ c) (hlim : l.length < 17592186044416) (r1 : List Int) (r2 : Bool) (hres : normN l = (r1, r2)) :
    Calls Try.prog 25 #[.slice A l.length c] w fun e w' => ∃ v0_ : Value, e = .returned (.tuple #[v0_, .bool r2]) ∧ Kd.R (Kd.int .i64) 3 w' w.heap.size (fun _ => True) v0_ r1 ∧ Below w.heap.size w w' := by
  have hcl := slices_Clone_int_int.calls A c l l w hr hc (by unfold slices_Clone_int_int.f; rw [if_pos hlim])
  have hclA := Aside0.mk hcl
  clear hcl
  have HRES := Aside0.mk hres
  have hlimA := Aside0.mk hlim
  clear hr hc hres hlim
  go_enter Try.func25, Try.ntmps25
  go_wp2_with (go_at_call 33; refine hclA.out.mono ?_; rintro e w1 ⟨v0, rfl, hR1, hB1⟩)
  rcases own_of hR1 with ⟨hv, hl⟩ | ⟨g, cap, hv, hg, hO⟩
  · subst hv
    subst hl
    have hE : Aside0 (r1 = [] ∧ r2 = false) := ⟨by
      have h := HRES.out
      have e : normN [] = ([], false) := by
        unfold normN sortN
        rw [List.filter_nil, List.mergeSort_nil]; rfl
      rw [e] at h
      injection h with h1 h2
      exact ⟨h1.symm, h2.symm⟩⟩
    have HB := Aside0.mk hB1
    clear hR1 hB1 HRES hclA
    go_wp2_with (first | (go_at_call 32; refine (del_nil _).mono ?_; rintro e w' ⟨rfl, rfl⟩) | (go_at_call 35; refine (sort_nil _).mono ?_; rintro e w' ⟨rfl, rfl⟩) | (go_at_call 39; refine (comp_nil _).mono ?_; rintro e w' ⟨rfl, rfl⟩))
    refine wp_loop_rounds 1 ?_
    rw [rounds_succ]
    go_wp2
    go_ret2
    obtain ⟨h1, h2⟩ := hE.out
    subst h1
    subst h2
    exact ⟨_, rfl, Kd.R_nil _ _ _ _ _, HB.out⟩
  · subst hv
    have hdel := del32 w1 g cap l hO
    have hlf := List.length_filter_le keepN l
    have hsortA : Aside0 (∀ W, OwnB W g cap (l.filter keepN) → Calls Try.prog 35 #[.slice (some ⟨g, 0, none⟩) (l.filter keepN).length cap, .func (.func 36) #[] #[]] W fun e w' => e = .returned (.tuple #[]) ∧ OwnB w' g cap (sortN l) ∧ ∀ B w0, B ≤ g → Below B w0 W → Below B w0 w') := ⟨fun W hW => sort35 W g cap _ hW (by have := hlimA.out; omega)⟩
    have hls : (sortN l).length = (l.filter keepN).length := List.length_mergeSort _
    obtain ⟨m, hm⟩ : ∃ m, (l.filter keepN).length = m := ⟨_, rfl⟩
    have hcompA : Aside0 (∀ W, OwnB W g cap (sortN l) → Calls Try.prog 39 #[.slice (some ⟨g, 0, none⟩) m cap] W fun e w' => e = .returned (.slice (some ⟨g, 0, none⟩) (compactUpTo (sortN l).toArray (sortN l).length).length cap) ∧ OwnB w' g cap (compactUpTo (sortN l).toArray (sortN l).length) ∧ ∀ B w0, B ≤ g → Below B w0 W → Below B w0 w') := ⟨fun W hW => by
      have := comp39 W g cap _ hW
      rw [hls, hm] at this
      rw [hls, hm]
      exact this⟩
    rw [hm] at hdel hsortA
    have hdelA := Aside0.mk hdel
    obtain ⟨R, hR⟩ : ∃ R, compactUpTo (sortN l).toArray (sortN l).length = R := ⟨_, rfl⟩
    rw [hR] at hcompA
    have hE0 : Aside0 (endN R = (r1, r2)) := ⟨by rw [← hR]; exact HRES.out⟩
    have HB := Aside0.mk hB1
    have hgA := Aside0.mk hg
    clear hdel hlf hls hm hR HRES hR1 hO hB1 hclA hlimA hg
    go_wp2_with (first | (go_at_call 32; refine hdelA.out.mono ?_; rintro e w2 ⟨rfl, hO2, hB2⟩) | (go_at_call 35; refine (hsortA.out _ hO2).mono ?_; rintro e w3 ⟨rfl, hO3, hB3⟩) | (go_at_call 39; refine (hcompA.out _ hO3).mono ?_; rintro e w4 ⟨rfl, hO4, hB4⟩))
    have HB4 : Aside0 (Below w.heap.size w w4) := ⟨hB4 _ _ hgA.out (hB3 _ _ hgA.out (hB2 _ _ hgA.out HB.out))⟩
    have HO4 := Aside0.mk (hO4.row hgA.out)
    have HC4 := Aside0.mk (Kd.R_reads' HO4.out).2.2
    have hRl : R.length ≤ 9223372036854775807 := Kd.C_max HC4.out
    clear hO2 hO3 hO4 hB2 hB3 hB4 hdelA hsortA hcompA HB
    rename World => wz
    go_loopg [15] R.length (fun kq v15 w' => ∃ j : Int, v15 = .int .i64 j ∧ Aside0 (0 ≤ j ∧ (kq : Int) + j = R.length) ∧ Aside0 (∀ t : Int, 0 < t → t < j → rdOf 0 R t ≠ wrap64 (-(rdOf 0 R (t - 1)))) ∧ Aside0 (∃ q, w' = wz.drewN q))
    case atStart => exact ⟨0, rfl, ⟨by omega⟩, ⟨fun t h1 h2 => absurd h2 (by omega)⟩, ⟨0, rfl⟩⟩
    case round =>
      obtain ⟨j, rfl, HJ, HL, HD⟩ := hrel
      have hJ := HJ.out
      obtain ⟨q, hq⟩ := HD.out
      subst hq
      by_cases hjl : j < (R.length : Int)
      · have hw2 : wrap64 (j + 1) = j + 1 := by unfold wrap64; omega
        have hw3 : wrap64 (j - 1) = j - 1 := by unfold wrap64; omega
        obtain ⟨hx4, -⟩ := Kd.R_celln (enc := Value.int .i64) (h1 := fun _ => rfl) (0 : Int) HO4.out j (by omega) hjl
        have hjb : 0 ≤ j ∧ j < (R.length : Int) := ⟨by omega, hjl⟩
        obtain ⟨k2, rfl⟩ : ∃ k2, gk = k2 + 1 := ⟨gk - 1, by omega⟩
        by_cases hj0 : 0 < j
        · obtain ⟨hx5, -⟩ := Kd.R_celln (enc := Value.int .i64) (h1 := fun _ => rfl) (0 : Int) HO4.out (j - 1) (by omega) (by omega)
          have hd0 : decide (0 < j) = true := decide_eq_true hj0
          have hjc : 0 ≤ j - 1 ∧ j - 1 < (R.length : Int) := ⟨by omega, by omega⟩
          obtain ⟨y, hy⟩ : ∃ y, rdOf 0 R j = y := ⟨_, rfl⟩
          rw [hy] at hx4
          have hyA : Aside0 (rdOf 0 R j = y) := ⟨hy⟩
          clear hy
          obtain ⟨z, hz⟩ : ∃ z, rdOf 0 R (j - 1) = z := ⟨_, rfl⟩
          rw [hz, show (j - 1).toNat = j.toNat - 1 by omega] at hx5
          have hzA : Aside0 (rdOf 0 R (j - 1) = z) := ⟨hz⟩
          clear hz
          have hx4d : ∀ m, (wz.drewN m).cell? ⟨g, j.toNat, none⟩ = some (.int .i64 y) := fun _ => hx4
          have hx5d : ∀ m, (wz.drewN m).cell? ⟨g, j.toNat - 1, none⟩ = some (.int .i64 z) := fun _ => hx5
          by_cases hc : y = wrap64 (-z)
          · have b1 : (y == wrap64 (-z)) = true := beq_iff_eq.mpr hc
            have hcl : clash R = true := clash_at (i := j) (by omega) hjl (by rw [hyA.out, hzA.out]; exact hc)
            have hE : Aside0 (r1 = [] ∧ r2 = true) := ⟨by
              have h := hE0.out
              unfold endN at h
              rw [if_pos hcl] at h
              injection h with h1 h2
              exact ⟨h1.symm, h2.symm⟩⟩
            clear hc hcl
            go_wp2
            go_quiet (fail)
            all_goals go_wp2
            all_goals go_ret2
            all_goals (obtain ⟨h1, h2⟩ := hE.out; subst h1; subst h2; exact ⟨_, rfl, Kd.R_nil _ _ _ _ _, by repeat (first | exact HB4.out | apply pw_below_drewN | apply below_drew)⟩)
          · have b1 : (y == wrap64 (-z)) = false := beq_eq_false_iff_ne.mpr hc
            have hcA := Aside0.mk hc
            clear hc
            go_wp2
            go_quiet (fail)
            all_goals go_wp2
            all_goals go_roundg k2
            all_goals (first | (case measure => omega) | (case rel => exact ⟨j + 1, rfl, ⟨by omega⟩, ⟨fun t h1 h2 => by
              by_cases ht : t < j
              · exact HL.out t h1 ht
              · rw [show t = j by omega, hyA.out, hzA.out]; exact hcA.out⟩, ⟨⟨_, rfl⟩⟩⟩))
        · obtain rfl : j = 0 := by omega
          have hd0 : decide ((0 : Int) < 0) = false := by decide
          go_wp2
          go_quiet (fail)
          all_goals go_wp2
          all_goals go_roundg k2
          all_goals (first | (case measure => omega) | (case rel => exact ⟨0 + 1, rfl, ⟨by omega⟩, ⟨fun t h1 h2 => absurd h2 (by omega)⟩, ⟨⟨_, rfl⟩⟩⟩))
      · have hcl : clash R = false := clash_no (fun t h1 h2 => HL.out t h1 (by omega))
        have hE : Aside0 (r1 = R ∧ r2 = false) := ⟨by
          have h := hE0.out
          unfold endN at h
          rw [hcl, if_neg (by decide)] at h
          injection h with h1 h2
          exact ⟨h1.symm, h2.symm⟩⟩
        clear hcl
        go_wp2
        go_ret2
        obtain ⟨h1, h2⟩ := hE.out
        subst h1
        subst h2
        exact ⟨_, rfl, Kd.R_below HO4.out (pw_below_drewN (Below.refl _ _) q), by repeat (first | exact HB4.out | apply pw_below_drewN | apply below_drew)⟩
def clause_Normal.f (l0 : List Int) : Option (List Int × Bool) := if l0.length < 17592186044416 then some (normN l0) else none
theorem clause_Normal.calls (A0 : Option Addr) (c0 : Nat) (l0 : List Int) (r1 : List Int) (r2 : Bool) (w : World) (hr0 : Kd.C (Kd.int .i64) w A0 l0.length l0) (hc0 : l0.length ≤ c0) (h : clause_Normal.f l0 = some (r1, r2)) :
    Calls Try.prog 25 #[.slice A0 l0.length c0] w fun e w' => ∃ v0_ : Value, e = .returned (.tuple #[v0_, .bool r2]) ∧ Kd.R (Kd.int .i64) 3 w' w.heap.size (fun _ => True) v0_ r1 ∧ Below w.heap.size w w' := by
  unfold clause_Normal.f at h
  by_cases hl : l0.length < 17592186044416
  · rw [if_pos hl] at h
    exact clause_normal w A0 c0 l0 hr0 hc0 hl r1 r2 (Option.some.inj h)
  · rw [if_neg hl] at h; cases h
end Go.Proofs.Ytnhpfdnhnocgjaa.G
/- What clause.Normal and the reference's Normal answer is one: the literals that have a number, each once, in order. -/
namespace Go.Proofs.Ytnhpfdnhnocgjaa.Lem
open Go.RowKit Go.Proofs.Ytnhpfdnhnocgjaa.G Go.Proofs.YtnhpfdnhnocgjaaW.PrintWords Go.Proofs.YtnhpfdnhnocgjaaW.PrintLast Go.Proofs.YtnhpfdnhnocgjaaW.PrintMore
open Go.Lib (compactUpTo keeps)
def lt3 (x y : Int) : Prop := num x < num y ∨ (num x = num y ∧ y < x)
theorem lt3_irr (x : Int) : ¬ lt3 x x := by unfold lt3; omega
theorem lt3_asym {x y : Int} (h : lt3 x y) : ¬ lt3 y x := by unfold lt3 at *; omega
theorem lt3_trans {x y z : Int} (h : lt3 x y) (h' : lt3 y z) : lt3 x z := by unfold lt3 at *; omega
theorem lt3_tri (x y : Int) : lt3 x y ∨ x = y ∨ lt3 y x := by unfold lt3; omega
/-- Rows that are strictly in order, of the same members, are one. -/
theorem uniq : ∀ a b : List Int, a.Pairwise lt3 → b.Pairwise lt3 → (∀ x, x ∈ a ↔ x ∈ b) → a = b
  | [], b, _, _, h => by
    cases b with
    | nil => rfl
    | cons y t => exact absurd ((h y).2 List.mem_cons_self) (by simp)
  | x :: a, b, ha, hb, h => by
    cases b with
    | nil => exact absurd ((h x).1 List.mem_cons_self) (by simp)
    | cons y b =>
      rw [List.pairwise_cons] at ha hb
      have hxy : x = y := by
        rcases List.mem_cons.1 ((h x).1 List.mem_cons_self) with h1 | h1
        · exact h1
        · rcases List.mem_cons.1 ((h y).2 List.mem_cons_self) with h2 | h2
          · exact h2.symm
          · exact absurd (hb.1 x h1) (lt3_asym (ha.1 y h2))
      subst hxy
      rw [uniq a b ha.2 hb.2 fun z => ?_]
      constructor
      · intro hz
        rcases List.mem_cons.1 ((h z).1 (List.mem_cons_of_mem _ hz)) with h1 | h1
        · subst h1; exact absurd (ha.1 z hz) (lt3_irr z)
        · exact h1
      · intro hz
        rcases List.mem_cons.1 ((h z).2 (List.mem_cons_of_mem _ hz)) with h1 | h1
        · subst h1; exact absurd (hb.1 z hz) (lt3_irr z)
        · exact h1
/-! ### clause.Normal -/
theorem leN_iff (x y : Int) : leN x y = true ↔ ¬ lt3 y x := by
  unfold leN
  rw [ltN, Bool.not_eq_true', decide_eq_false_iff_not]
  exact Iff.rfl
theorem sort_pair (l : List Int) : (sortN l).Pairwise (fun a b => leN a b = true) := by
  unfold sortN
  refine List.pairwise_mergeSort (fun a b c h1 h2 => ?_) (fun a b => ?_) _
  · rw [leN_iff] at *
    unfold lt3 at *
    omega
  · rw [Bool.or_eq_true, leN_iff, leN_iff]
    unfold lt3
    omega
theorem sort_mem (l : List Int) (v : Int) : v ∈ sortN l ↔ v ∈ l ∧ num v ≠ 0 := by
  unfold sortN keepN
  rw [List.mem_mergeSort, List.mem_filter]
  simp
theorem bang (s : List Int) (j : Nat) (h : j < s.length) : s.toArray[j]! = s[j] := by rw [getElem!_pos s.toArray j (by simpa using h)]; simp
theorem comp_mem (s : List Int) (v : Int) : v ∈ compactUpTo s.toArray s.length ↔ v ∈ s := by
  unfold compactUpTo
  rw [List.mem_map]
  constructor
  · rintro ⟨j, hj, rfl⟩
    have hj := List.mem_range.1 (List.mem_filter.1 hj).1
    show s.toArray[j]! ∈ s
    rw [bang s j hj]
    exact List.getElem_mem _
  · intro hv
    obtain ⟨j, hj, hvj⟩ := List.mem_iff_getElem.1 hv
    have key : ∀ j : Nat, ∀ hj : j < s.length, ∃ i, ∃ hi : i < s.length, s[i] = s[j] ∧ keeps s.toArray i = true := by
      intro j
      induction j with
      | zero => intro hj; exact ⟨0, hj, rfl, by unfold keeps; simp⟩
      | succ j ih =>
        intro hj
        by_cases he : s[j + 1] = s[j]
        · obtain ⟨i, hi, e, hk⟩ := ih (by omega)
          exact ⟨i, hi, e.trans he.symm, hk⟩
        · refine ⟨j + 1, hj, rfl, ?_⟩
          unfold keeps
          rw [bang s (j + 1) hj, show j + 1 - 1 = j from rfl, bang s j (by omega)]
          exact decide_eq_true (Or.inr he)
    obtain ⟨i, hi, e, hk⟩ := key j hj
    exact ⟨i, List.mem_filter.2 ⟨List.mem_range.2 hi, hk⟩, by show s.toArray[i]! = v; rw [bang s i hi, e, hvj]⟩
theorem comp_pair (s : List Int) (hs : s.Pairwise (fun a b => leN a b = true)) : (compactUpTo s.toArray s.length).Pairwise lt3 := by
  unfold compactUpTo
  rw [List.pairwise_map, List.pairwise_filter]
  refine List.Pairwise.imp_of_mem ?_ (List.pairwise_lt_range (n := s.length))
  intro i j hi hj hij _ hk
  have hj' := List.mem_range.1 hj
  have hi' := List.mem_range.1 hi
  show lt3 s.toArray[i]! s.toArray[j]!
  rw [bang s i hi', bang s j hj']
  have hle : ∀ a b (hab : a < b) (hb : b < s.length), ¬ lt3 s[b] (s[a]'(by omega)) := fun a b hab hb => (leN_iff _ _).1 (List.pairwise_iff_getElem.1 hs a b (by omega) hb hab)
  unfold keeps at hk
  have hk := of_decide_eq_true hk
  rcases hk with hk | hk
  · omega
  · rw [bang s j hj', bang s (j - 1) (by omega)] at hk
    have h1 := hle (j - 1) j (by omega) hj'
    have h2 : lt3 (s[j - 1]'(by omega)) s[j] := by
      rcases lt3_tri (s[j - 1]'(by omega)) s[j] with h | h | h
      · exact h
      · exact absurd h.symm hk
      · exact absurd h h1
    by_cases he : i = j - 1
    · subst he; exact h2
    · have h3 := hle i (j - 1) (by omega) (by omega)
      rcases lt3_tri s[i] (s[j - 1]'(by omega)) with h | h | h
      · exact lt3_trans h h2
      · rw [h]; exact h2
      · exact absurd h h3
/-- The row that Normal makes ahead of its last test. -/
def rowN (l : List Int) : List Int := compactUpTo (sortN l).toArray (sortN l).length
theorem normN_eq (l : List Int) : normN l = endN (rowN l) := rfl
theorem rowN_mem (l : List Int) (v : Int) : v ∈ rowN l ↔ v ∈ l ∧ num v ≠ 0 := by unfold rowN; rw [comp_mem, sort_mem]
theorem rowN_pair (l : List Int) : (rowN l).Pairwise lt3 := comp_pair _ (sort_pair l)
theorem rowN_same (a b : List Int) (h : ∀ v, v ∈ a ↔ v ∈ b) : rowN a = rowN b := uniq _ _ (rowN_pair a) (rowN_pair b) fun v => by rw [rowN_mem, rowN_mem, h v]
/-! ### the reference's -/
def W64 (v : Int) : Prop := -9223372036854775808 ≤ v ∧ v ≤ 9223372036854775807
theorem num_val {v : Int} (h : W64 v) : num v = if v = -9223372036854775808 then 0 else if v < 0 then -v else v := by
  unfold num
  by_cases hm : v = -9223372036854775808
  · rw [if_pos hm, if_pos hm]
  · rw [if_neg hm, if_neg hm]
    unfold W64 at h
    have hw : wrap64 (-v) = -v := by unfold wrap64; omega
    rw [hw]
    unfold mx
    split <;> split <;> omega
theorem num_zero {v : Int} (h : W64 v) : num v = 0 ↔ (v = 0 ∨ v = wrap64 (-v)) := by
  rw [num_val h]
  unfold W64 at h
  unfold wrap64
  split
  · omega
  · split <;> omega
end Go.Proofs.Ytnhpfdnhnocgjaa.Lem
