/- Same, plainly. -/
import Derived.Test.YtckmgoeflecpgaaDoorPx3
namespace Go.Proofs.YtckmgoeflecpgaaDoor.L
set_option linter.unusedVariables false
set_option linter.unusedSimpArgs false
open Go.RowKit Go.Proofs.YtckmgoeflecpgaaDoor.I Go.Proofs.YtckmgoeflecpgaaDoor.G Go.Proofs.YtckmgoeflecpgaaDoor.P Go.Proofs.YtckmgoeflecpgaaDoorW.PrintWords Go.Proofs.YtckmgoeflecpgaaDoorW.PrintLast Go.Proofs.YtckmgoeflecpgaaDoorW.PrintMore
theorem tl_inj {a b : ByteArray} (h : a.toList = b.toList) : a = b := by
  rw [ByteArray.toList_eq, ByteArray.toList_eq] at h
  obtain ⟨a⟩ := a
  obtain ⟨b⟩ := b
  have : a = b := Array.ext' h
  rw [this]
theorem wn {i n : Nat} (h : i < n) (hn : n ≤ 9223372036854775807) : wrap64 ((i : Int) + 1) = ((i + 1 : Nat) : Int) := by unfold wrap64; omega
theorem same_l1 (N N' : List ByteArray) (L L' : List S41) (hn : N.length ≤ 9223372036854775807) (hl : N.length = N'.length) : ∀ (d d' : List ByteArray) (i : Nat), N.drop i = d → N'.drop i = d' → i ≤ N.length → ∃ b, Ev (fun k => crossroadslaw10_Same.l1 k (i : Int) L N L' N') b ∧ (b = true ↔ d = d')
  | [], d', i, hd, hd', hi => by
    have h1 : N.length ≤ i := List.drop_eq_nil_iff.1 hd
    have h2 : d' = [] := by rw [← hd']; exact List.drop_eq_nil_iff.2 (by omega)
    subst h2
    refine ⟨true, Ev.step (f := fun _ => some true) (fun k => ?_) (Ev.now _), by simp⟩
    rw [crossroadslaw10_Same.l1, if_neg (by omega)]
  | x :: d, [], i, hd, hd', hi => by
    obtain ⟨hlt, _, _⟩ := drop_at hd
    have := List.drop_eq_nil_iff.1 hd'
    omega
  | x :: d, y :: d', i, hd, hd', hi => by
    obtain ⟨hlt, hx, hd2⟩ := drop_at hd
    obtain ⟨hlt', hx', hd2'⟩ := drop_at hd'
    obtain ⟨b, hb, hb2⟩ := same_l1 N N' L L' hn hl d d' (i + 1) hd2 hd2' (by omega)
    have hr' := rdS hd'
    by_cases he : x = y
    · refine ⟨b, Ev.step (fun k => ?_) hb, by rw [hb2, he]; simp⟩
      rw [crossroadslaw10_Same.l1, if_pos (by omega), if_pos (by omega), if_pos (by omega), rdS hd, hr', if_pos (by rw [he]), wn hlt hn]
    · refine ⟨false, Ev.step (f := fun _ => some false) (fun k => ?_) (Ev.now _), by simp [he]⟩
      rw [crossroadslaw10_Same.l1, if_pos (by omega), if_pos (by omega), if_pos (by omega), rdS hd, hr', if_neg (fun h => he (tl_inj h))]
theorem same_l0 (N N' : List ByteArray) (L L' : List S41) (hn : N.length ≤ 9223372036854775807) (hl : N.length = N'.length) (hm : L.length ≤ 9223372036854775807) (hk : L.length = L'.length) : ∀ (d d' : List S41) (i : Nat), L.drop i = d → L'.drop i = d' → i ≤ L.length → ∃ b, Ev (fun k => crossroadslaw10_Same.l0 k (i : Int) L N L' N') b ∧ (b = true ↔ d = d' ∧ N = N')
  | [], d', i, hd, hd', hi => by
    have h1 : L.length ≤ i := List.drop_eq_nil_iff.1 hd
    have h2 : d' = [] := by rw [← hd']; exact List.drop_eq_nil_iff.2 (by omega)
    subst h2
    obtain ⟨b, hb, hb2⟩ := same_l1 N N' L L' hn hl N N' 0 rfl rfl (Nat.zero_le _)
    refine ⟨b, Ev.step (fun k => ?_) hb, by rw [hb2]; simp⟩
    rw [crossroadslaw10_Same.l0, if_neg (by omega)]
    rfl
  | x :: d, [], i, hd, hd', hi => by
    obtain ⟨hlt, _, _⟩ := drop_at hd
    have := List.drop_eq_nil_iff.1 hd'
    omega
  | x :: d, y :: d', i, hd, hd', hi => by
    obtain ⟨hlt, hx, hd2⟩ := drop_at hd
    obtain ⟨hlt', hx', hd2'⟩ := drop_at hd'
    obtain ⟨b, hb, hb2⟩ := same_l0 N N' L L' hn hl hm hk d d' (i + 1) hd2 hd2' (by omega)
    have hr' := rd41 hd'
    by_cases he : x = y
    · refine ⟨b, Ev.step (fun k => ?_) hb, by rw [hb2, he]; simp⟩
      rw [crossroadslaw10_Same.l0, if_pos (by omega), if_pos (by omega), if_pos (by omega), rd41 hd, hr', if_neg (by rw [he]; simp), wn hlt hm]
    · refine ⟨false, Ev.step (f := fun _ => some false) (fun k => ?_) (Ev.now _), by simp [he]⟩
      have hne : (!(x.f0 == y.f0) || !(x.f1 == y.f1)) = true := by
        obtain ⟨a, b⟩ := x
        obtain ⟨c, d⟩ := y
        by_cases h0 : a = c
        · by_cases h1 : b = d
          · subst h0; subst h1; exact absurd rfl he
          · simp [h1]
        · simp [h0]
      rw [crossroadslaw10_Same.l0, if_pos (by omega), if_pos (by omega), if_pos (by omega), rd41 hd, hr', if_pos hne]
theorem same_ev (L : List S41) (N : List ByteArray) (L' : List S41) (N' : List ByteArray) (hn : N.length ≤ 9223372036854775807) (hm : L.length ≤ 9223372036854775807) : ∃ b, Ev (fun k => crossroadslaw10_Same.f k L N L' N') b ∧ (b = true ↔ L = L' ∧ N = N') := by
  by_cases hk : L.length = L'.length
  · by_cases hl : N.length = N'.length
    · obtain ⟨b, hb, hb2⟩ := same_l0 N N' L L' hn hl hm hk L L' 0 rfl rfl (Nat.zero_le _)
      refine ⟨b, ?_, hb2⟩
      refine Ev.congr (f := fun k => crossroadslaw10_Same.j0 k false L N L' N') (fun k => ?_) ?_
      · rw [crossroadslaw10_Same.f, if_pos (by omega), show ((N.length : Int) != (N'.length : Int)) = false by rw [hl]; simp]
      · exact Ev.step (fun k => by rw [crossroadslaw10_Same.j0, if_neg (by decide)]; rfl) hb
    · refine ⟨false, ?_, by simp; intro _ h; exact hl (by rw [h])⟩
      refine Ev.congr (f := fun k => crossroadslaw10_Same.j0 k true L N L' N') (fun k => ?_) ?_
      · rw [crossroadslaw10_Same.f, if_pos (by omega), show ((N.length : Int) != (N'.length : Int)) = true by simp; omega]
      · exact Ev.step (f := fun _ => some false) (fun k => by rw [crossroadslaw10_Same.j0, if_pos rfl]) (Ev.now _)
  · refine ⟨false, ?_, by simp; intro h; exact absurd (by rw [h]) hk⟩
    refine Ev.congr (f := fun k => crossroadslaw10_Same.j0 k true L N L' N') (fun k => ?_) ?_
    · rw [crossroadslaw10_Same.f, if_neg (by omega)]
    · exact Ev.step (f := fun _ => some false) (fun k => by rw [crossroadslaw10_Same.j0, if_pos rfl]) (Ev.now _)
theorem same_self (L : List S41) (N : List ByteArray) (hn : N.length ≤ 9223372036854775807) (hm : L.length ≤ 9223372036854775807) : Ev (fun k => crossroadslaw10_Same.f k L N L N) true := by
  obtain ⟨b, hb, hb2⟩ := same_ev L N L N hn hm
  rw [hb2.2 ⟨rfl, rfl⟩] at hb
  exact hb
theorem bytesOf_inj' : ∀ {a b : List Int}, okB a → okB b → (strOfNums a).toList = (strOfNums b).toList → a = b := fun {a b} ha hb h => by
  have := tl_inj h
  rw [← bytesOf_str ha, ← bytesOf_str hb, this]
end Go.Proofs.YtckmgoeflecpgaaDoor.L
