/- tar's may, number, Write in closed words. Plain. -/
import Derived.Test.YtlnogacjebbepaaDoorHeadL
import Derived.Test.YtlnogacjebbepaaDoorPx2
import Derived.Lib.IndexLaws
namespace Go.Proofs.YtlnogacjebbepaaDoor.H
set_option linter.unusedVariables false
set_option linter.unusedSimpArgs false
open Go.RowKit Go.Proofs.YtlnogacjebbepaaDoor.P Go.Proofs.YtlnogacjebbepaaDoor.G Go.Proofs.YtlnogacjebbepaaDoorW.PrintWords Go.Proofs.YtlnogacjebbepaaDoorW.PrintLast Go.Proofs.YtlnogacjebbepaaDoorW.PrintMore
def blk (n : Nat) : Nat := (n + 511) / 512
def pad (n : Nat) : Nat := blk n * 512 - n
theorem blk_le (n : Nat) : n ≤ blk n * 512 := by unfold blk; omega
theorem blk_mono {a b : Nat} (h : a ≤ b) : blk a ≤ blk b := by unfold blk; omega
theorem blocks_eq (n : Nat) (h : n ≤ 1000000000000) : tar_blocks.f (n : Int) = some (blk n : Int) := by
  unfold tar_blocks.f
  rw [w64 (x := (n : Int) + 512) (by omega), w64 (x := (n : Int) + 512 - 1) (by omega)]
  have e : ((n : Int) + 512 - 1) = ((n + 511 : Nat) : Int) := by omega
  rw [e, Int.tdiv_eq_ediv_of_nonneg (by omega), w64 (by omega)]
  unfold blk
  rfl
def badName (s : ByteArray) : Prop := s.size = 0 ∨ 99 < s.size ∨ (0 : UInt8) ∈ s.data.toList
instance (s : ByteArray) : Decidable (badName s) := by unfold badName; infer_instance
def badDir (x : S44) : Prop := x.f1 = true ∧ 0 < x.f2.length
instance (x : S44) : Decidable (badDir x) := by unfold badDir; infer_instance
def cost (x : S44) : Nat := 1 + blk (min x.f2.length 65536)
def costs (l : List S44) : Nat := (l.map cost).sum
def mayV (l : List S44) : Int := if ∃ x ∈ l, badName x.f0 then 10 else if ∃ x ∈ l, badDir x then 12 else if 128 < 2 + costs l then 3 else 0
theorem drop_getD {α : Type} {l d : List α} {x : α} {i : Nat} (z : α) (h : l.drop i = x :: d) : i < l.length ∧ l.getD i z = x ∧ l.drop (i + 1) = d := by
  have hlt : i < l.length := by
    apply Decidable.byContradiction
    intro hn
    rw [List.drop_eq_nil_of_le (by omega)] at h
    cases h
  rw [List.drop_eq_getElem_cons hlt] at h
  injection h with h3 h4
  exact ⟨hlt, by rw [List.getD_eq_getElem?_getD, List.getElem?_eq_getElem hlt]; exact h3, h4⟩
theorem drop_nil_le {α : Type} {l : List α} {i : Nat} (h : l.drop i = []) : l.length ≤ i := by
  have h1 : l.length - i = 0 := by rw [← List.length_drop, h]; rfl
  omega
theorem rd44 {l d : List S44} {x : S44} {i : Nat} (h : l.drop i = x :: d) : rd_T44 l (i : Int) = x := (drop_getD z44 h).2.1
theorem empty_iff (s : ByteArray) : s.toList = ([] : List UInt8) ↔ s.size = 0 := by
  rw [Lib.toList_data]
  constructor
  · intro h
    have : s.data.toList.length = 0 := by rw [h]; rfl
    rw [Array.length_toList] at this
    exact this
  · intro h
    refine List.eq_nil_of_length_eq_zero ?_
    rw [Array.length_toList]
    exact h
theorem idx0 (s : ByteArray) : strings_IndexByte.f s 0 = some (Lib.indexByte s.data.toList 0) := rfl
theorem idx_ge (l : List UInt8) : Lib.indexByte l 0 ≥ 0 ↔ (0 : UInt8) ∈ l := by
  constructor
  · intro h
    obtain ⟨o, ho⟩ := Int.eq_ofNat_of_zero_le h
    exact List.mem_of_getElem? (Lib.indexByte_some ho).1
  · intro h
    have h1 := Lib.indexByte_ge l 0
    rcases Int.lt_or_le (Lib.indexByte l 0) 0 with h2 | h2
    · have h3 : Lib.indexByte l 0 = -1 := by omega
      obtain ⟨k, hk⟩ := List.getElem?_of_mem h
      exact absurd hk (Lib.indexByte_none h3 k)
    · exact h2
theorem may_l2 (l : List S44) (hl : l.length ≤ 1000000000) : ∀ (d : List S44) (a i : Nat), i ≤ l.length → l.drop i = d → a ≤ 128 → Ev (fun k => tar_may.l2 k (a : Int) l (l.length : Int) (i : Int)) (if 128 < a + costs d then 3 else 0)
  | [], a, i, hi, h, ha => by
    have h1 := drop_nil_le h
    refine Ev.step (f := fun _ => some 0) (fun k => by rw [tar_may.l2, if_neg (by omega)]) ?_
    rw [if_neg (by simp [costs]; omega)]
    exact Ev.now _
  | x :: d, a, i, hi, h, ha => by
    obtain ⟨hlt, _, h4⟩ := drop_getD z44 h
    have hx := rd44 h
    have hm : mn (x.f2.length : Int) 65536 = ((min x.f2.length 65536 : Nat) : Int) := by unfold mn; omega
    have hb := blocks_eq (min x.f2.length 65536) (by omega)
    have hb2 : blk (min x.f2.length 65536) ≤ 128 := by unfold blk; omega
    have hs : costs (x :: d) = 1 + blk (min x.f2.length 65536) + costs d := by simp [costs, cost]
    have e1 : wrap64 ((a : Int) + wrap64 (1 + (blk (min x.f2.length 65536) : Int))) = ((a + (1 + blk (min x.f2.length 65536)) : Nat) : Int) := by
      rw [w64 (x := 1 + (blk (min x.f2.length 65536) : Int)) (by omega), w64 (by omega)]; omega
    by_cases c : 128 < a + (1 + blk (min x.f2.length 65536))
    · refine Ev.step (f := fun _ => some 3) (fun k => ?_) ?_
      · rw [tar_may.l2, if_pos (by omega), if_pos (by omega), if_pos (by omega), hx, hm, hb, Option.bind_some, e1, if_pos (by omega)]
      · rw [if_pos (by omega)]; exact Ev.now _
    · refine Ev.step (fun k => ?_) (Ev.congr (fun _ => rfl) (by rw [hs, ← Nat.add_assoc]; exact may_l2 l hl d (a + (1 + blk (min x.f2.length 65536))) (i + 1) (by omega) h4 (by omega)))
      rw [tar_may.l2, if_pos (by omega), if_pos (by omega), if_pos (by omega), hx, hm, hb, Option.bind_some, e1, if_neg (by omega), w64 (x := (i : Int) + 1) (by omega)]
      rfl
theorem may_l1 (l : List S44) (hl : l.length ≤ 1000000000) : ∀ (d : List S44) (i : Nat), i ≤ l.length → l.drop i = d → Ev (fun k => tar_may.l1 k l l (l.length : Int) (i : Int)) (if ∃ x ∈ d, badDir x then 12 else if 128 < 2 + costs l then 3 else 0)
  | [], i, hi, h => by
    have h1 := drop_nil_le h
    refine Ev.step (fun k => ?_) (Ev.congr (fun _ => rfl) (by rw [if_neg (by simp)]; exact may_l2 l hl l 2 0 (by omega) rfl (by omega)))
    rw [tar_may.l1, if_neg (by omega)]
    rfl
  | x :: d, i, hi, h => by
    obtain ⟨hlt, _, h4⟩ := drop_getD z44 h
    have hx := rd44 h
    have ih := may_l1 l hl d (i + 1) (by omega) h4
    by_cases c1 : badDir x
    · refine Ev.step (f := fun _ => some 12) (fun k => ?_) ?_
      · rw [tar_may.l1, if_pos (by omega), if_pos (by omega), if_pos (by omega), hx, if_pos c1.1, if_pos (by have := c1.2; omega)]
      · rw [if_pos ⟨x, by simp, c1⟩]; exact Ev.now _
    · have e : (∃ y ∈ x :: d, badDir y) ↔ ∃ y ∈ d, badDir y := by
        simp only [List.mem_cons, exists_eq_or_imp]
        exact ⟨fun hh => hh.resolve_left c1, .inr⟩
      simp only [e]
      refine Ev.step (fun k => ?_) ih
      rw [tar_may.l1, if_pos (by omega), if_pos (by omega), if_pos (by omega), hx, w64 (x := (i : Int) + 1) (by omega)]
      by_cases c2 : x.f1 = true
      · rw [if_pos c2, if_neg (by intro h5; exact c1 ⟨c2, by omega⟩)]; rfl
      · rw [if_neg c2]; rfl
theorem may_l0 (l : List S44) (hl : l.length ≤ 1000000000) : ∀ (d : List S44) (i : Nat), i ≤ l.length → l.drop i = d → Ev (fun k => tar_may.l0 k l l (l.length : Int) (i : Int)) (if ∃ x ∈ d, badName x.f0 then 10 else if ∃ x ∈ l, badDir x then 12 else if 128 < 2 + costs l then 3 else 0)
  | [], i, hi, h => by
    have h1 := drop_nil_le h
    refine Ev.step (fun k => ?_) (Ev.congr (fun _ => rfl) (by rw [if_neg (by simp)]; exact may_l1 l hl l 0 (by omega) rfl))
    rw [tar_may.l0, if_neg (by omega)]
    rfl
  | x :: d, i, hi, h => by
    obtain ⟨hlt, _, h4⟩ := drop_getD z44 h
    have hx := rd44 h
    have ih := may_l0 l hl d (i + 1) (by omega) h4
    by_cases c1 : badName x.f0
    · refine Ev.step (f := fun _ => some 10) (fun k => ?_) ?_
      · rw [tar_may.l0, if_pos (by omega), if_pos (by omega), if_pos (by omega), hx]
        by_cases a1 : x.f0.size = 0
        · rw [if_pos ((empty_iff _).2 a1)]
        · rw [if_neg (fun hh => a1 ((empty_iff _).1 hh))]
          by_cases a2 : 99 < x.f0.size
          · rw [if_pos (by omega)]
          · rw [if_neg (by omega), idx0, Option.bind_some, if_pos ((idx_ge _).2 ((c1.resolve_left a1).resolve_left a2))]
      · rw [if_pos ⟨x, by simp, c1⟩]; exact Ev.now _
    · have e : (∃ y ∈ x :: d, badName y.f0) ↔ ∃ y ∈ d, badName y.f0 := by
        simp only [List.mem_cons, exists_eq_or_imp]
        exact ⟨fun hh => hh.resolve_left c1, .inr⟩
      simp only [e]
      refine Ev.step (fun k => ?_) ih
      rw [tar_may.l0, if_pos (by omega), if_pos (by omega), if_pos (by omega), hx, w64 (x := (i : Int) + 1) (by omega)]
      rw [if_neg (fun hh => c1 (.inl ((empty_iff _).1 hh))), if_neg (fun hh => c1 (.inr (.inl (by omega)))), idx0, Option.bind_some, if_neg (fun hh => c1 (.inr (.inr ((idx_ge _).1 hh))))]
      rfl
theorem may_ev (l : List S44) (hl : l.length ≤ 1000000000) : Ev (fun k => tar_may.f k l) (mayV l) := may_l0 l hl l 0 (by omega) rfl
def numL : Int → List Int → Int × Bool
  | n, [] => (n, true)
  | n, x :: r => if x < 48 ∨ 55 < x ∨ 65536 < n then (0, false) else numL (Go.bits .or .i64 (wrap64 (n * 8)) ((x - 48) % 256)) r
theorem number_l0 (L : List Int) (hL : L.length ≤ 100000) : ∀ (d : List Int) (n : Int) (i : Nat), i ≤ L.length → L.drop i = d → Ev (fun k => tar_number.l0 k n L (L.length : Int) (i : Int)) (numL n d)
  | [], n, i, hi, h => by
    have h1 := drop_nil_le h
    exact Ev.step (f := fun _ => some (n, true)) (fun k => by rw [tar_number.l0, if_neg (by omega)]) (Ev.now _)
  | x :: d, n, i, hi, h => by
    obtain ⟨hlt, hg, h4⟩ := drop_getD 0 h
    have hx : rd L (i : Int) = x := hg
    by_cases c : x < 48 ∨ 55 < x ∨ 65536 < n
    · refine Ev.step (f := fun _ => some (0, false)) (fun k => ?_) ?_
      · rw [tar_number.l0, if_pos (by omega), if_pos (by omega), if_pos (by omega), hx]
        by_cases a1 : x < 48
        · rw [if_pos a1]
        · rw [if_neg a1]
          by_cases a2 : 55 < x
          · rw [if_pos a2]
          · rw [if_neg a2, if_pos (by omega)]
      · rw [numL, if_pos c]; exact Ev.now _
    · refine Ev.step (fun k => ?_) (Ev.congr (fun _ => rfl) (by rw [numL, if_neg c]; exact number_l0 L hL d _ (i + 1) (by omega) h4))
      rw [tar_number.l0, if_pos (by omega), if_pos (by omega), if_pos (by omega), hx, if_neg (by omega), if_neg (by omega), if_neg (by omega), w64 (x := (i : Int) + 1) (by omega)]
      rfl
def numV (L : List Int) : Int × Bool := numL 0 L
theorem number_ev (L : List Int) (hL : L.length ≤ 100000) : Ev (fun k => tar_number.f k L) (numV L) := number_l0 L hL L 0 0 (by omega) rfl
end Go.Proofs.YtlnogacjebbepaaDoor.H
