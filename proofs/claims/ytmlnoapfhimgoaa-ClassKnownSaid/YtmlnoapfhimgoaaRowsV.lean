/- A row of rows of bytes that the call fills itself: each row inside lies apart from it. -/
import Derived.Test.YtmlnoapfhimgoaaClassC
namespace Go.Proofs.Ytmlnoapfhimgoaa.Cls
set_option linter.unusedVariables false
set_option linter.unusedSimpArgs false
open Go.RowKit Go.Proofs.YtmlnoapfhimgoaaW.PrintWords Go.Proofs.YtmlnoapfhimgoaaW.PrintLast Go.Proofs.YtmlnoapfhimgoaaW.PrintMore
abbrev kb : Kd (List Int) := Kd.slice 5 (Kd.int .u8)
def RowsV (W : World) (base g : Nat) (cs : List Value) (L : List (List Int)) : Prop :=
  W.heap[g]? = some (.cells cs.toArray 42 (0, 0)) ∧ base ≤ g ∧ cs.length = L.length ∧ ∀ (j : Nat) (v : Value) (l : List Int), cs[j]? = some v → L[j]? = some l → Kd.V (Kd.int .u8) 5 W base (fun k => base ≤ k ∧ k ≠ g) v l
section
variable {W W1 : World} {base g : Nat} {cs : List Value} {L : List (List Int)}
theorem RowsV.below (h : RowsV W base g cs L) (hb : Below W.heap.size W W1) : RowsV W1 base g cs L :=
  ⟨(hb.block g (blk_lt h.1)).trans h.1, h.2.1, h.2.2.1, fun j v l hv hl => Kd.V_below (h.2.2.2 j v l hv hl) hb⟩
theorem RowsV.put (h : RowsV W base g cs L) (i : Nat) {v : Value} {l : List Int} (hv : Kd.V (Kd.int .u8) 5 W base (fun k => base ≤ k ∧ k ≠ g) v l) : RowsV (W.setCell ⟨g, i, none⟩ v) base g (cs.set i v) (L.set i l) := by
  obtain ⟨h1, h2, h3, h4⟩ := h
  refine ⟨?_, h2, by rw [List.length_set, List.length_set]; exact h3, fun j u m hu hm => ?_⟩
  · have := blk_set h1 i v
    rw [this]
    congr 2
    simp
  · refine Kd.V_far (p := ⟨g, i, none⟩) ?_ (fun k hk => hk.2) v
    by_cases hj : j = i
    · subst hj
      rw [List.getElem?_set_self' ] at hu hm
      cases hc : cs[j]? with
      | none => rw [hc] at hu; cases hu
      | some x =>
        cases hL : L[j]? with
        | none => rw [hL] at hm; cases hm
        | some y =>
          rw [hc] at hu
          rw [hL] at hm
          have e1 : v = u := by simpa using hu
          have e2 : l = m := by simpa using hm
          rw [← e1, ← e2]
          exact hv
    · rw [List.getElem?_set_ne (Ne.symm hj)] at hu hm
      exact h4 j u m hu hm
theorem RowsV.read (h : RowsV W base g cs L) (hm : L.length ≤ 9223372036854775807) : Kd.F kb W (fun k => base ≤ k) (some ⟨g, 0, none⟩) L.length L := by
  obtain ⟨h1, h2, h3, h4⟩ := h
  intro W' hW
  have hg : W'.heap[g]? = some (.cells cs.toArray 42 (0, 0)) := (hW g h2 (blk_lt h1)).trans h1
  refine ⟨rfl, hm, fun _ => ⟨_, rfl, fun j p hj => ?_⟩⟩
  have hjl : j < L.length := (List.getElem?_eq_some_iff.1 hj).1
  have hjc : cs[j]? = some (cs[j]'(by omega)) := List.getElem?_eq_getElem (by omega)
  obtain ⟨A, c, hv, hl, hf⟩ := h4 j _ p hjc hj
  refine ⟨[.slice A p.length c], rfl, ⟨A, c, rfl, hl, hf W' (fun k hk hlt => hW k hk.1 hlt)⟩, fun i u hu => ?_⟩
  cases i with
  | zero =>
    injection hu with hu
    subst hu
    show W'.cell? ((⟨g, 0, none⟩ : Addr).add (j * 1 + 0)) = _
    rw [add_plain, blk_cell hg]
    simp
    rw [hjc, hv]
  | succ i => simp at hu
theorem RowsV.cell (h : RowsV W base g cs L) (i : Nat) (hi : i < L.length) : (∃ v, W.cell? ⟨g, i, none⟩ = some v) ∧ W.frozen? ⟨g, i, none⟩ = false := by
  obtain ⟨h1, h2, h3, h4⟩ := h
  refine ⟨⟨cs[i]'(by omega), ?_⟩, blk_frozen h1 i⟩
  rw [blk_cell h1]
  simp
theorem made_nil (m : Nat) : madeCells #[Value.slice none 0 0] m = (List.replicate m (Value.slice none 0 0)).toArray := by
  apply Array.ext
  · simp [madeCells]
  · intro i h1 h2
    simp [madeCells, Nat.mod_one]
theorem RowsV.made (W : World) (base m : Nat) (hb : base ≤ W.heap.size) : RowsV (W.alloc (.cells (madeCells #[Value.slice none 0 0] m) 42)) base W.heap.size (List.replicate m (.slice none 0 0)) (List.replicate m []) := by
  refine ⟨by rw [made_nil]; exact blk_new W _, hb, by simp, fun j v l hv hl => ?_⟩
  rw [List.getElem?_replicate] at hv hl
  split at hv
  · rename_i hj
    rw [if_pos hj] at hl
    injection hv with hv
    injection hl with hl
    subst hv hl
    exact Kd.V_nil _ _ _ _ _
  · cases hv
/-- A row that a call made, since the world W0 (the row of rows is elder). -/
theorem V_of_R {α : Type} {d : Kd α} {e : Nat} {W0 : World} {v : Value} {xs : List α} (h : Kd.R d e W W0.heap.size (fun _ => True) v xs) (hb : base ≤ W0.heap.size) (hg : g < W0.heap.size) : Kd.V d e W base (fun k => base ≤ k ∧ k ≠ g) v xs :=
  Kd.R_V (Kd.R_mono (Kd.R_bound h) (fun k hk => ⟨by have := hk.2.1; omega, by have := hk.2.1; omega⟩))
theorem V_of_R' {α : Type} {d : Kd α} {e b : Nat} {v : Value} {xs : List α} (h : Kd.R d e W b (fun _ => True) v xs) (hb : base ≤ b) : Kd.V d e W base (fun k => base ≤ k) v xs :=
  Kd.R_V (Kd.R_mono (Kd.R_bound h) (fun k hk => by have := hk.2.1; omega))
end
end Go.Proofs.Ytmlnoapfhimgoaa.Cls
