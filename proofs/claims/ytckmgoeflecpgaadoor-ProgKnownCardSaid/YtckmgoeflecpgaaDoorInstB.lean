/- What the functions of package inst answer, walked by hand. -/
import Derived.Test.YtckmgoeflecpgaaDoorInstA
import Derived.Test.YtckmgoeflecpgaaDoorShelf
import Derived.Below
import Derived.Deep.Draws
import Derived.Deep.AppendLies
import Derived.Maps.AppendAt
import Derived.OwnWalk
import Derived.Laws.BytesArg
import Derived.Laws.MakeOwn
import Derived.Laws.OwnMore
import Derived.Deep.OwnRows
import Derived.Tactics
import Derived.Lib.ConvBytes
import Derived.Laws.Slices
import Derived.WalkKit
import Derived.WalkSpells
import Derived.KernelRfl
import Derived.RowKit3
import Derived.Deep.LoopGhost
import Derived.Deep.QuietTactic
import Derived.BigQuiet
import Derived.WideLaws
import Derived.Deep.DeepCutAuto
import Derived.Deep.CutBlock
import Derived.Deep.RegionHeld3
import Derived.Laws.Rows
import Derived.Lib.AppendStr
import Derived.ArgAppend
import Derived.Laws.IdiomCopy
import Derived.OrdersHeld
import Derived.Laws.BitsLemmas
import Derived.RowKit
namespace Go.Proofs.YtckmgoeflecpgaaDoor.I
set_option linter.unusedVariables false
set_option linter.unusedSimpArgs false
open Go.RowKit
theorem tab (op : Int) (w : World) : Calls Tryd.prog 33 #[.int .i64 op] w fun e w' => e = .returned (.tuple #[.agg #[.int .i64 (kindOf op).1, .int .i64 (kindOf op).2.1, .int .i64 (kindOf op).2.2], .bool (inR op)]) ∧ Below w.heap.size w w' := by
  rcases op_cases op with ⟨k, hk, rfl⟩ | h
  · match k, hk with
    | 0, _ => exact tab_1 w
    | 1, _ => exact tab_2 w
    | 2, _ => exact tab_3 w
    | 3, _ => exact tab_4 w
    | 4, _ => exact tab_5 w
    | 5, _ => exact tab_6 w
    | 6, _ => exact tab_7 w
    | 7, _ => exact tab_8 w
    | 8, _ => exact tab_9 w
    | 9, _ => exact tab_10 w
    | 10, _ => exact tab_11 w
    | 11, _ => exact tab_12 w
    | 12, _ => exact tab_13 w
    | 13, _ => exact tab_14 w
    | 14, _ => exact tab_15 w
    | 15, _ => exact tab_16 w
    | 16, _ => exact tab_17 w
    | 17, _ => exact tab_18 w
    | 18, _ => exact tab_19 w
    | 19, _ => exact tab_20 w
    | 20, _ => exact tab_21 w
    | 21, _ => exact tab_22 w
    | 22, _ => exact tab_23 w
    | 23, _ => exact tab_24 w
    | 24, _ => exact tab_25 w
    | 25, _ => exact tab_26 w
    | 26, _ => exact tab_27 w
    | 27, _ => exact tab_28 w
    | 28, _ => exact tab_29 w
    | 29, _ => exact tab_30 w
    | 30, _ => exact tab_31 w
    | 31, _ => exact tab_32 w
    | 32, _ => exact tab_33 w
    | 33, _ => exact tab_34 w
    | 34, _ => exact tab_35 w
    | 35, _ => exact tab_36 w
    | 36, _ => exact tab_37 w
    | 37, _ => exact tab_38 w
    | 38, _ => exact tab_39 w
    | 39, _ => exact tab_40 w
    | 40, _ => exact tab_41 w
    | k + 41, h => exact absurd h (by omega)
  · have e : kindOf op = (0, 0, 0) := by unfold kindOf; rw [h]; rfl
    rw [e, h]
    exact tab_no op h w
theorem alloc_lt (w : World) (o : Obj) : w.heap.size < (w.alloc o).heap.size := by
  show w.heap.size < (w.heap.push o).size
  rw [Array.size_push]; omega
theorem may28 (op x : Int) (w : World) : Calls Tryd.prog 28 #[.agg #[.int .i64 op, .int .i64 x]] w fun e w' => e = .returned (.bool (mayI op x)) ∧ Below w.heap.size w w' := by
  have hT := tab op
  obtain ⟨a, ha⟩ : ∃ a, (kindOf op).1 = a := ⟨_, rfl⟩
  obtain ⟨b, hb⟩ : ∃ b, (kindOf op).2.1 = b := ⟨_, rfl⟩
  obtain ⟨c, hc⟩ : ∃ c, (kindOf op).2.2 = c := ⟨_, rfl⟩
  obtain ⟨r, hr0⟩ : ∃ r, mayI op x = r := ⟨_, rfl⟩
  have hr : Aside (r = (inR op && (decide (0 ≤ x) && decide (x < c)))) := ⟨by rw [← hr0]; unfold mayI; rw [hc]⟩
  rw [ha, hb, hc] at hT
  rw [hr0]
  have hTA := Aside.mk hT
  clear ha hb hc hT hr0
  cases q : inR op
  · rw [q] at hTA hr
    have hr1 : Aside (r = false) := ⟨by rw [hr.out]; rfl⟩
    go_enter Tryd.func28, Tryd.ntmps28
    go_wp2_with (go_at_call 33; refine (hTA.out _).mono ?_; rintro e w1 ⟨rfl, hB⟩; have hcx : w1.cell? ⟨w.heap.size, 1, none⟩ = some (.int .i64 x) := (hB.cell (p := ⟨w.heap.size, 1, none⟩) (alloc_lt w _)).trans (by rw [World.cell?_alloc_mark]; rfl); have hcy : ∀ o, (w1.alloc o).cell? ⟨w.heap.size, 1, none⟩ = some (.int .i64 x) := fun o => (World.cell?_alloc_old _ _ _ (Nat.ne_of_lt (World.block_lt_of_cell? _ _ hcx))).trans hcx; have hB1 : Below w.heap.size w w1 := ((Below.refl _ _).alloc (Nat.le_refl _) _).trans (hB.mono (Nat.le_of_lt (alloc_lt w _))))
    go_ret
    exact ⟨by rw [hr1.out]; rfl, hB1.alloc hB1.size _⟩
  · rw [q] at hTA hr
    by_cases h0 : 0 ≤ x
    · have d0 : decide (0 ≤ x) = true := decide_eq_true h0
      by_cases h1 : x < c
      · have d1 : decide (x < c) = true := decide_eq_true h1
        have hr1 : Aside (r = true) := ⟨by rw [hr.out, d0, d1]; rfl⟩
        clear h0 h1
        go_enter Tryd.func28, Tryd.ntmps28
        go_wp2_with (go_at_call 33; refine (hTA.out _).mono ?_; rintro e w1 ⟨rfl, hB⟩; have hcx : w1.cell? ⟨w.heap.size, 1, none⟩ = some (.int .i64 x) := (hB.cell (p := ⟨w.heap.size, 1, none⟩) (alloc_lt w _)).trans (by rw [World.cell?_alloc_mark]; rfl); have hcy : ∀ o, (w1.alloc o).cell? ⟨w.heap.size, 1, none⟩ = some (.int .i64 x) := fun o => (World.cell?_alloc_old _ _ _ (Nat.ne_of_lt (World.block_lt_of_cell? _ _ hcx))).trans hcx; have hB1 : Below w.heap.size w w1 := ((Below.refl _ _).alloc (Nat.le_refl _) _).trans (hB.mono (Nat.le_of_lt (alloc_lt w _))))
        go_ret
        exact ⟨by rw [hr1.out]; rfl, hB1.alloc hB1.size _⟩
      · have d1 : decide (x < c) = false := decide_eq_false h1
        have hr1 : Aside (r = false) := ⟨by rw [hr.out, d0, d1]; rfl⟩
        clear h0 h1
        go_enter Tryd.func28, Tryd.ntmps28
        go_wp2_with (go_at_call 33; refine (hTA.out _).mono ?_; rintro e w1 ⟨rfl, hB⟩; have hcx : w1.cell? ⟨w.heap.size, 1, none⟩ = some (.int .i64 x) := (hB.cell (p := ⟨w.heap.size, 1, none⟩) (alloc_lt w _)).trans (by rw [World.cell?_alloc_mark]; rfl); have hcy : ∀ o, (w1.alloc o).cell? ⟨w.heap.size, 1, none⟩ = some (.int .i64 x) := fun o => (World.cell?_alloc_old _ _ _ (Nat.ne_of_lt (World.block_lt_of_cell? _ _ hcx))).trans hcx; have hB1 : Below w.heap.size w w1 := ((Below.refl _ _).alloc (Nat.le_refl _) _).trans (hB.mono (Nat.le_of_lt (alloc_lt w _))))
        go_ret
        exact ⟨by rw [hr1.out]; rfl, hB1.alloc hB1.size _⟩
    · have d0 : decide (0 ≤ x) = false := decide_eq_false h0
      have hr1 : Aside (r = false) := ⟨by rw [hr.out, d0]; rfl⟩
      clear h0
      go_enter Tryd.func28, Tryd.ntmps28
      go_wp2_with (go_at_call 33; refine (hTA.out _).mono ?_; rintro e w1 ⟨rfl, hB⟩; have hcx : w1.cell? ⟨w.heap.size, 1, none⟩ = some (.int .i64 x) := (hB.cell (p := ⟨w.heap.size, 1, none⟩) (alloc_lt w _)).trans (by rw [World.cell?_alloc_mark]; rfl); have hcy : ∀ o, (w1.alloc o).cell? ⟨w.heap.size, 1, none⟩ = some (.int .i64 x) := fun o => (World.cell?_alloc_old _ _ _ (Nat.ne_of_lt (World.block_lt_of_cell? _ _ hcx))).trans hcx; have hB1 : Below w.heap.size w w1 := ((Below.refl _ _).alloc (Nat.le_refl _) _).trans (hB.mono (Nat.le_of_lt (alloc_lt w _))))
      go_ret
      exact ⟨by rw [hr1.out]; rfl, hB1.alloc hB1.size _⟩
/-- The table that strings.Fields reads. -/
def HT (w : World) : Prop := ∀ c : Nat, c < 256 → w.cell? ⟨Tryd.lays157_ren.g 0, c, none⟩ = some (.int .u8 (if Lib.isSp (UInt8.ofNat c) then 1 else 0))
theorem HT.below {w w' : World} (h : HT w) (hb : Below w.heap.size w w') : HT w' := fun c hc => (hb.cell (World.block_lt_of_cell? _ _ (h c hc))).trans (h c hc)
def txt : ByteArray := ⟨#[112, 117, 115, 104, 32, 112, 111, 112, 32, 100, 117, 112, 32, 115, 119, 97, 112, 32, 97, 100, 100, 32, 115, 117, 98, 32, 109, 117, 108, 32, 100, 105, 118, 32, 109, 111, 100, 32, 97, 110, 100, 32, 111, 114, 32, 120, 111, 114, 32, 115, 104, 108, 32, 115, 104, 114, 32, 101, 113, 32, 108, 116, 32, 110, 111, 116, 32, 103, 101, 116, 32, 115, 101, 116, 32, 108, 111, 97, 100, 32, 115, 116, 111, 114, 101, 32, 106, 117, 109, 112, 32, 122, 101, 114, 111, 32, 111, 117, 116, 32, 97, 115, 115, 101, 114, 116, 32, 101, 120, 105, 116, 32, 111, 112, 101, 110, 32, 99, 108, 111, 115, 101, 32, 114, 101, 97, 100, 32, 119, 114, 105, 116, 101, 32, 115, 101, 101, 107, 32, 115, 105, 122, 101, 32, 117, 110, 108, 105, 110, 107, 32, 114, 101, 110, 97, 109, 101, 32, 109, 107, 100, 105, 114, 32, 114, 109, 100, 105, 114, 32, 108, 105, 115, 116, 32, 116, 114, 117, 110, 99, 32, 116, 119, 105, 110, 32, 97, 114, 103, 99, 32, 97, 114, 103]⟩
theorem txt_fields : (Lib.fields txt.data.toList).map (fun l => Value.string ⟨l.toArray⟩) = names.map Value.string := by kernel_rfl
theorem txt_ascii : txt.data.toList.all (fun b => decide (b.toNat < 128)) = true := by kernel_rfl
theorem fields36 (w : World) (h : HT w) : Calls Tryd.prog 36 #[.string txt] w fun e w' => e = .returned (.slice (some ⟨w.heap.size, 0, none⟩) 41 41) ∧ w' = w.alloc (.cells (names.map Value.string).toArray 9) := by
  have hc := Any.strings_Fields_core Tryd.lays157 (by kernel_rfl) txt w (of_decide_eq_true (by kernel_rfl)) (fun j b hj => of_decide_eq_true (List.all_eq_true.1 txt_ascii b (List.mem_of_getElem? hj))) h
  rw [txt_fields] at hc
  have e : (Lib.fields txt.data.toList).length = 41 := by
    have := congrArg List.length txt_fields
    rw [List.length_map, List.length_map] at this
    rw [this]; rfl
  rw [e] at hc
  exact hc
theorem name32 (op : Int) (w : World) (h : HT w) : Calls Tryd.prog 32 #[.int .i64 op] w fun e w' => e = .returned (.string (nameOf op)) ∧ Below w.heap.size w w' := by
  have hT := tab op
  obtain ⟨a, ha⟩ : ∃ a, (kindOf op).1 = a := ⟨_, rfl⟩
  obtain ⟨b, hb⟩ : ∃ b, (kindOf op).2.1 = b := ⟨_, rfl⟩
  obtain ⟨c, hc⟩ : ∃ c, (kindOf op).2.2 = c := ⟨_, rfl⟩
  rw [ha, hb, hc] at hT
  have hTA := Aside.mk hT
  have HTA := Aside.mk h
  clear ha hb hc hT h
  cases q : inR op
  · have hn : Aside (nameOf op = ⟨#[]⟩) := ⟨by unfold nameOf; rw [q]; rfl⟩
    rw [q] at hTA
    go_enter Tryd.func32, Tryd.ntmps32
    go_wp2_with (go_at_call 33; refine (hTA.out _).mono ?_; rintro e w1 ⟨rfl, hB⟩)
    go_ret
    exact ⟨by rw [hn.out]; rfl, hB.alloc hB.size _⟩
  · obtain ⟨n, hn⟩ : ∃ n, nameOf op = n := ⟨_, rfl⟩
    have hb : 1 ≤ op ∧ op ≤ 41 := by
      unfold inR at q
      rw [Bool.and_eq_true] at q
      exact ⟨of_decide_eq_true q.1, of_decide_eq_true q.2⟩
    have hnm : names[op.toNat - 1]? = some n := by
      rw [← hn, show op.toNat - 1 = (op - 1).toNat by omega]
      unfold nameOf
      rw [if_pos q, List.getD_eq_getElem?_getD]
      have hl : (op - 1).toNat < names.length := by show (op - 1).toNat < 41; omega
      rw [List.getElem?_eq_getElem hl]; rfl
    have hw1 : wrap64 (op - 1) = op - 1 := by unfold wrap64; omega
    have hib : 0 ≤ op - 1 ∧ op - 1 < 41 := by omega
    have hcell : ∀ W : World, (W.alloc (.cells (names.map Value.string).toArray 9)).cell? ⟨W.heap.size, op.toNat - 1, none⟩ = some (.string n) := fun W => by
      rw [World.cell?_alloc_mark]
      show (names.map Value.string).toArray[op.toNat - 1]? = _
      rw [List.getElem?_toArray, List.getElem?_map, hnm]; rfl
    have hF : Aside (∀ W, HT W → Calls Tryd.prog 36 #[.string txt] W fun e w' => ∃ b, e = .returned (.slice (some ⟨b, 0, none⟩) 41 41) ∧ w'.cell? ⟨b, op.toNat - 1, none⟩ = some (.string n) ∧ Below W.heap.size W w') := ⟨fun W hW => (fields36 W hW).mono fun e w' ⟨he, hw⟩ => ⟨_, he, by rw [hw]; exact hcell W, by rw [hw]; exact (Below.refl _ _).alloc (Nat.le_refl _) _⟩⟩
    rw [hn]
    rw [q] at hTA
    clear hn hnm hcell
    go_enter Tryd.func32, Tryd.ntmps32
    go_wp2_with (first
      | (go_at_call 33; refine (hTA.out _).mono ?_; rintro e w1 ⟨rfl, hB⟩; have hB1 := hB.alloc hB.size (Obj.cells #[Value.int IntKind.i64 a, Value.int IntKind.i64 b, Value.int IntKind.i64 c] 71))
      | (go_at_call 36; refine (hF.out _ (HTA.out.below hB1)).mono ?_; rintro e w2 ⟨b2, rfl, hc2, hB2⟩))
    go_ret
    exact ⟨rfl, hB1.trans (hB2.mono hB1.size)⟩
theorem plain31 (op : Int) (w : World) : Calls Tryd.prog 31 #[.int .i64 op] w fun e w' => e = .returned (.bool (decide ((kindOf op).2.2 ≤ 1))) ∧ Below w.heap.size w w' := by
  have hT := tab op
  obtain ⟨a, ha⟩ : ∃ a, (kindOf op).1 = a := ⟨_, rfl⟩
  obtain ⟨b, hb⟩ : ∃ b, (kindOf op).2.1 = b := ⟨_, rfl⟩
  obtain ⟨c, hc⟩ : ∃ c, (kindOf op).2.2 = c := ⟨_, rfl⟩
  rw [ha, hb, hc] at hT
  rw [hc]
  have hTA := Aside.mk hT
  clear ha hb hc hT
  cases q : inR op
  all_goals
    rw [q] at hTA
    go_enter Tryd.func31, Tryd.ntmps31
    go_wp2_with (go_at_call 33; refine (hTA.out _).mono ?_; rintro e w1 ⟨rfl, hB⟩)
    go_ret
    exact ⟨rfl, hB.alloc hB.size _⟩
end Go.Proofs.YtckmgoeflecpgaaDoor.I
