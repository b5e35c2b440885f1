/- clause.Normal, walked by hand over the contracts of slices.DeleteFunc, slices.SortFunc and slices.Compact. -/
import Derived.Test.YtlfghalebkgclaaProg
import Derived.Below
import Derived.Deep.Draws
import Derived.Deep.AppendLies
import Derived.Maps.AppendAt
import Derived.OwnWalk
import Derived.Laws.BytesArg
import Derived.Laws.MakeOwn
import Derived.Laws.OwnMore
import Derived.Deep.OwnRows
import Derived.Tactics
import Derived.Lib.ConvBytes
import Derived.Laws.Slices
import Derived.WalkKit
import Derived.WalkSpells
import Derived.KernelRfl
import Derived.RowKit3
import Derived.Deep.LoopGhost
import Derived.Deep.QuietTactic
import Derived.BigQuiet
import Derived.WideLaws
import Derived.Deep.DeepCutAuto
import Derived.Deep.CutBlock
import Derived.Deep.RegionHeld3
import Derived.Laws.Rows
import Derived.Lib.AppendStr
import Derived.ArgAppend
import Derived.Laws.IdiomCopy
import Derived.OrdersHeld
import Derived.Laws.BitsLemmas
import Derived.RowKit
import Derived.Test.YtlfghalebkgclaaWMore
import Derived.Test.YtlfghalebkgclaaWInvWords
import Derived.Test.YtlfghalebkgclaaWGuard
import Derived.Test.YtlfghalebkgclaaWNEv
import Derived.Test.YtlfghalebkgclaaGRefN
import Derived.Test.YtlfghalebkgclaaShelf
namespace Go.Proofs.Ytlfghalebkgclaa.G
set_option linter.unusedVariables false
set_option linter.unusedSimpArgs false
open Go.RowKit Go.Proofs.YtlfghalebkgclaaW.PrintWords Go.Proofs.YtlfghalebkgclaaW.PrintLast Go.Proofs.YtlfghalebkgclaaW.PrintMore
open Go.Lib
open Go.Sort (putRow putCells mapBlock onCells grow heap_grow_old SWO Holds)
/-- A row of one's own, by its block. -/
def OwnB (w : World) (g cap : Nat) (d : List Int) : Prop :=
  ∃ cur, w.heap[g]? = some (.cells cur 3 (0, 0)) ∧ d.length ≤ cap ∧ cap ≤ maxLen ∧ cur.size = cap ∧ cur.toList.take d.length = encs (Value.int .i64) d
theorem OwnB.lt {w : World} {g cap : Nat} {d : List Int} (h : OwnB w g cap d) : g < w.heap.size := by
  obtain ⟨cur, hg, _⟩ := h
  exact (Array.getElem?_eq_some_iff.1 hg).1
theorem OwnB.get {w : World} {g cap : Nat} {d : List Int} (h : OwnB w g cap d) : Holds (Value.int .i64) w g 0 d.toArray := by
  obtain ⟨cur, hg, hl, hm, hs, ht⟩ := h
  intro j hj
  have hj' : j < d.length := by simpa using hj
  have hc : cur[j]? = some (Value.int .i64 d[j]) := by
    have h1 : (cur.toList.take d.length)[j]? = (encs (Value.int .i64) d)[j]? := by rw [ht]
    rw [List.getElem?_take_of_lt hj'] at h1
    unfold encs at h1
    rw [List.getElem?_map, List.getElem?_eq_getElem hj'] at h1
    rw [← Array.getElem?_toList]; exact h1
  have e1 : d.toArray[j]! = d[j] := by rw [getElem!_pos d.toArray j (by simpa using hj')]; simp
  refine ⟨?_, ?_⟩
  · rw [e1, Nat.zero_add]
    unfold World.cell?
    rw [hg]
    simpa using hc
  · rw [Nat.zero_add]
    unfold World.frozen?
    rw [hg]
    simp
theorem OwnB.put {w : World} {g cap : Nat} {d d' : List Int} (h : OwnB w g cap d) (hl : d'.length = d.length) : OwnB (putRow (Value.int .i64) w g 0 d'.toArray) g cap d' := by
  obtain ⟨cur, hg, h1, hm, hs, ht⟩ := h
  refine ⟨putCells (Value.int .i64) 0 d'.toArray cur, ?_, by omega, hm, by unfold putCells; rw [Array.size_mapIdx]; exact hs, ?_⟩
  · unfold putRow mapBlock
    simp only [Array.getElem?_modify, if_true, hg, Option.map_some, onCells]
  · apply List.ext_getElem?
    intro j
    by_cases hj : j < d'.length
    · rw [List.getElem?_take_of_lt hj, Array.getElem?_toList]
      unfold putCells encs
      rw [Array.getElem?_mapIdx, Array.getElem?_eq_getElem (show j < cur.size by omega), List.getElem?_map, List.getElem?_eq_getElem hj]
      simp only [Option.map_some]
      rw [if_pos ⟨Nat.zero_le _, by simpa using hj⟩]
      congr 2
      rw [Nat.sub_zero, getElem!_pos d'.toArray j (by simpa using hj)]; simp
    · rw [List.getElem?_eq_none (by rw [List.length_take]; omega), List.getElem?_eq_none (by unfold encs; rw [List.length_map]; omega)]
theorem OwnB.cut {w : World} {g cap : Nat} {d z : List Int} (h : OwnB w g cap (d ++ z)) : OwnB w g cap d := by
  obtain ⟨cur, hg, h1, hm, hs, ht⟩ := h
  rw [List.length_append] at h1 ht
  refine ⟨cur, hg, by omega, hm, hs, ?_⟩
  have := congrArg (List.take d.length) ht
  rw [List.take_take, Nat.min_eq_left (by omega)] at this
  rw [this]
  unfold encs
  rw [List.map_append, List.take_append_of_le_length (by rw [List.length_map]; exact Nat.le_refl _), List.take_of_length_le (by rw [List.length_map]; exact Nat.le_refl _)]
theorem OwnB.same {w w1 : World} {g cap : Nat} {d : List Int} (h : OwnB w g cap d) (hs : w1.heap[g]? = w.heap[g]?) : OwnB w1 g cap d := by
  obtain ⟨cur, hg, r⟩ := h
  exact ⟨cur, hs.trans hg, r⟩
theorem OwnB.row {w : World} {g cap base : Nat} {d : List Int} (h : OwnB w g cap d) (hb : base ≤ g) : Kd.R (Kd.int .i64) 3 w base (fun _ => True) (.slice (some ⟨g, 0, none⟩) d.length cap) d := by
  obtain ⟨cur, hg, h1, hm, hs, ht⟩ := h
  refine Kd.R_of_own ⟨by unfold encs; rw [List.length_map, Nat.mul_one], .inr ⟨g, cap, cur, rfl, hb, hg, h1, hm, by rw [Nat.mul_one]; exact hs, by rw [Nat.mul_one]; exact ht⟩⟩ (fun _ _ => trivial)
theorem own_of {w : World} {base : Nat} {ok : Nat → Prop} {v : Value} {d : List Int} (h : Kd.R (Kd.int .i64) 3 w base ok v d) : (v = .slice none 0 0 ∧ d = []) ∨ ∃ g cap, v = .slice (some ⟨g, 0, none⟩) d.length cap ∧ base ≤ g ∧ OwnB w g cap d := by
  obtain ⟨h1, h2⟩ := Kd.own_of_R h
  rcases h2 with ⟨hv, hn⟩ | ⟨g, cap, cur, hv, hb, hg, hl, hm, hs, ht⟩
  · exact .inl ⟨hv, List.eq_nil_of_length_eq_zero hn⟩
  · exact .inr ⟨g, cap, hv, hb, cur, hg, hl, hm, by rw [Nat.mul_one] at hs; exact hs, by rw [Nat.mul_one] at ht; exact ht⟩
theorem below_put {B : Nat} {w0 w : World} (h : Below B w0 w) {g off : Nat} (hg : B ≤ g) (d : Array Int) : Below B w0 (putRow (Value.int .i64) w g off d) :=
  ⟨h.os, h.tape, h.output, by show w0.heap.size ≤ (w.heap.modify _ _).size; rw [Array.size_modify]; exact h.size, fun k hk => by
    have e : (putRow (Value.int .i64) w g off d).heap[k]? = w.heap[k]? := by
      unfold putRow mapBlock
      show (w.heap.modify _ _)[k]? = _
      rw [Array.getElem?_modify, if_neg (by omega)]
    rw [e]; exact h.block k hk⟩
theorem below_ahead {B : Nat} {w0 w : World} (h : Below B w0 w) (q : Nat) : Below B w0 (Sort.ahead w q) := ⟨h.os, h.tape, h.output, h.size, h.block⟩
theorem below_grow {B : Nat} {w0 w : World} (h : Below B w0 w) (hB : B ≤ w.heap.size) (os : Array Obj) : Below B w0 (grow w os) :=
  ⟨h.os, h.tape, h.output, by show w0.heap.size ≤ (w.heap ++ os).size; rw [Array.size_append]; have := h.size; omega, fun k hk => (heap_grow_old w os (by omega)).trans (h.block k hk)⟩
/-- What is kept, and how it is ordered. -/
def keepN (v : Int) : Bool := !decide (num v = 0)
def leN (x y : Int) : Bool := !ltOf cfN y x
def sortN (l : List Int) : List Int := (l.filter keepN).mergeSort leN
def normN (l : List Int) : List Int × Bool := endN (compactUpTo (sortN l).toArray (sortN l).length)
theorem ltN (x y : Int) : ltOf cfN x y = decide (num x < num y ∨ (num x = num y ∧ y < x)) := by
  unfold ltOf cfN cmpI
  by_cases h1 : num x < num y
  · simp [h1]
  · by_cases h2 : num y < num x
    · simp [h1, h2]; omega
    · have h3 : num x = num y := by omega
      by_cases h4 : y < x
      · simp [h3, h4]
      · by_cases h5 : x < y
        · simp [h3, h4, h5]
        · simp [h3, h4, h5]
theorem swoN : SWO (ltOf cfN) where
  irrefl x := by rw [ltN]; simp
  trans x y z h1 h2 := by rw [ltN] at *; simp at *; omega
  ntrans x y z h1 h2 := by rw [ltN] at *; simp at *; omega
theorem totN (x y : Int) (h1 : ltOf cfN x y = false) (h2 : ltOf cfN y x = false) : x = y := by rw [ltN] at *; simp at *; omega
theorem cells_i64 : OneCell (Value.int .i64) := fun _ => rfl
theorem enters21 : ∀ args w, (callFunc 21 args).run Try.prog w = .ok (.enter 21 args) w := enters_of Try.func21 (by kernel_rfl) rfl
theorem enters24 : ∀ args w, (callFunc 24 args).run Try.prog w = .ok (.enter 24 args) w := enters_of Try.func24 (by kernel_rfl) rfl
/-- slices.DeleteFunc at a row of one's own. -/
theorem del19 (w : World) (g cap : Nat) (d : List Int) (h : OwnB w g cap d) : Calls Try.prog 19 #[.slice (some ⟨g, 0, none⟩) d.length cap, .func (.func 21) #[] #[]] w fun e w' =>
    e = .returned (.slice (some ⟨g, 0, none⟩) (d.filter keepN).length cap) ∧ OwnB w' g cap (d.filter keepN) ∧ ∀ B w0, B ≤ g → Below B w0 w → Below B w0 w' := by
  have hsz : d.length ≤ cap := by obtain ⟨_, _, hl, _⟩ := h; exact hl
  have hm : cap ≤ maxLen := by obtain ⟨_, _, _, hm, _⟩ := h; exact hm
  have hcon := AnyE.slices_DeleteFunc Try.delL (Value.int .i64) cells_i64 (fun v => decide (num v = 0)) 21 #[] enters21 0 Try.zeroValue3 g 0 cap d.toArray w (fun W x _ => (clos21 x W).mono fun e w' ⟨he, hw⟩ => ⟨he, 0, hw⟩) (fun n os dk x _ => (clos21 x _).mono fun e w' ⟨he, hw⟩ => ⟨he, 0, hw⟩)
    h.get (by rw [List.size_toArray]; unfold maxLen at hm; omega) (by rw [List.size_toArray]; exact hsz)
  rw [List.size_toArray] at hcon
  change Calls Try.prog 19 #[.slice (some ⟨g, 0, none⟩) d.length cap, .func (.func 21) #[] #[]] w _ at hcon
  refine hcon.mono ?_
  rintro e w' ⟨he, q, hw⟩
  refine ⟨he, ?_, ?_⟩
  · rw [hw]
    refine OwnB.cut (z := List.replicate (d.length - (d.filter keepN).length) 0) ?_
    refine OwnB.put (d := d) (OwnB.same h rfl) ?_
    have := List.length_filter_le keepN d
    show ((d.filter keepN) ++ List.replicate (d.length - (d.filter keepN).length) 0).length = d.length
    rw [List.length_append, List.length_replicate]
    omega
  · intro B w0 hB hb
    rw [hw]
    exact below_put (below_ahead hb q) hB _
/-- slices.SortFunc at a row of one's own. -/
theorem sort23 (w : World) (g cap : Nat) (d : List Int) (h : OwnB w g cap d) (h62 : d.length < 4611686018427387904) : Calls Try.prog 23 #[.slice (some ⟨g, 0, none⟩) d.length cap, .func (.func 24) #[] #[]] w fun e w' =>
    e = .returned (.tuple #[]) ∧ OwnB w' g cap (d.mergeSort leN) ∧ ∀ B w0, B ≤ g → Below B w0 w → Below B w0 w' := by
  have hsz : d.length ≤ cap := by obtain ⟨_, _, hl, _⟩ := h; exact hl
  have hm : cap ≤ maxLen := by obtain ⟨_, _, _, hm, _⟩ := h; exact hm
  have hcon := Any.slices_SortFunc_total Try.sortL (Value.int .i64) cells_i64 cfN swoN 24 #[] g 0 cap d.toArray w enters24 (fun m os dk _ x y => clos24 x y _) h.get h.lt (by rw [List.size_toArray]; exact h62) totN
  rw [List.size_toArray] at hcon
  change Calls Try.prog 23 #[.slice (some ⟨g, 0, none⟩) d.length cap, .func (.func 24) #[] #[]] w _ at hcon
  refine hcon.mono ?_
  rintro e w' ⟨he, q, os, hw⟩
  have hsame : OwnB (putRow (Value.int .i64) (Sort.ahead w q) g 0 (d.mergeSort leN).toArray) g cap (d.mergeSort leN) := OwnB.put (d := d) (OwnB.same h rfl) (List.length_mergeSort d)
  refine ⟨he, ?_, ?_⟩
  · rw [hw]
    exact OwnB.same hsame (heap_grow_old _ os hsame.lt)
  · intro B w0 hB hb
    rw [hw]
    exact below_grow (below_put (below_ahead hb q) hB _) (Nat.le_trans hB (Nat.le_of_lt hsame.lt)) os
/-- slices.Compact at a row of one's own. -/
theorem comp27 (w : World) (g cap : Nat) (d : List Int) (h : OwnB w g cap d) : Calls Try.prog 27 #[.slice (some ⟨g, 0, none⟩) d.length cap] w fun e w' =>
    e = .returned (.slice (some ⟨g, 0, none⟩) (compactUpTo d.toArray d.length).length cap) ∧ OwnB w' g cap (compactUpTo d.toArray d.length) ∧ ∀ B w0, B ≤ g → Below B w0 w → Below B w0 w' := by
  have hsz : d.length ≤ cap := by obtain ⟨_, _, hl, _⟩ := h; exact hl
  have hm : cap ≤ maxLen := by obtain ⟨_, _, _, hm, _⟩ := h; exact hm
  have hcon := AnyE.slices_Compact Try.cpL (Value.int .i64) cells_i64 (EqlAt.intD _ _ _) (NeqAt.intD _ _ _) 0 Try.zeroValue3 g 0 cap d.toArray w h.get (by rw [List.size_toArray]; unfold maxLen at hm; omega) (by rw [List.size_toArray]; exact hsz)
  rw [List.size_toArray] at hcon
  change Calls Try.prog 27 #[.slice (some ⟨g, 0, none⟩) d.length cap] w _ at hcon
  refine hcon.mono ?_
  rintro e w' ⟨he, q, hw⟩
  have hle : (compactUpTo d.toArray d.length).length ≤ d.length := by
    unfold compactUpTo
    rw [List.length_map]
    have := List.length_filter_le (keeps d.toArray) (List.range d.length)
    rw [List.length_range] at this
    exact this
  refine ⟨he, ?_, ?_⟩
  · rw [hw]
    refine OwnB.cut (z := List.replicate (d.length - (compactUpTo d.toArray d.length).length) 0) ?_
    refine OwnB.put (d := d) (OwnB.same h rfl) ?_
    rw [List.length_append, List.length_replicate]
    omega
  · intro B w0 hB hb
    rw [hw]
    exact below_put (below_ahead hb q) hB _
end Go.Proofs.Ytlfghalebkgclaa.G
