/- ProgNames answers true: any names. -/
import Derived.Test.YtckmgoeflecpgaaDoorPx6
import Derived.Test.YtckmgoeflecpgaaDoorProgS
namespace Go.Proofs.YtckmgoeflecpgaaDoor.Pure
open Go.RowKit Go.Proofs.YtckmgoeflecpgaaDoor.L Go.Proofs.YtckmgoeflecpgaaDoor.I Go.Proofs.YtckmgoeflecpgaaDoor.G Go.Proofs.YtckmgoeflecpgaaDoor.P Go.Proofs.YtckmgoeflecpgaaDoorW.PrintWords Go.Proofs.YtckmgoeflecpgaaDoorW.PrintLast Go.Proofs.YtckmgoeflecpgaaDoorW.PrintMore
set_option linter.unusedVariables false
theorem names_l0 (l : List ByteArray) (hn : l.length ≤ 9223372036854775806) (hs : ∀ y ∈ l, y.size ≤ 140737488351232) : ∀ (d : List ByteArray) (i : Nat) (n : Int), l.drop i = d → i ≤ l.length → (l.length ≤ 30 → 0 ≤ n ∧ n ≤ i * 140737488351232) →
    ∃ n' : Int, (l.length ≤ 30 → n' = n + ((d.map ByteArray.size).sum : Nat)) ∧ ∀ r, Ev (fun k => if (l.length : Int) > 30 then crossroadslaw10_ProgNames.j1 k l n' true else crossroadslaw10_ProgNames.j1 k l n' (decide (n' > 10000))) r → Ev (fun k => crossroadslaw10_ProgNames.l0 k l n (i : Int)) r
  | [], i, n, hd, hi, hb => by
    have h1 : l.length ≤ i := List.drop_eq_nil_iff.1 hd
    refine ⟨n, fun _ => by simp, fun r hr => Ev.step (fun k => ?_) hr⟩
    rw [crossroadslaw10_ProgNames.l0, if_neg (by omega)]
  | y :: d, i, n, hd, hi, hb => by
    obtain ⟨hlt, hy, hd2⟩ := drop_at hd
    have hys := hs y (hy ▸ List.getElem_mem hlt)
    have hw : wrap64 ((i : Int) + 1) = ((i + 1 : Nat) : Int) := by unfold wrap64; omega
    have hnx : l.length ≤ 30 → wrap64 (n + (y.size : Int)) = n + (y.size : Int) := fun h => by
      have := hb h
      unfold wrap64
      omega
    obtain ⟨n', h1, h2⟩ := names_l0 l hn hs d (i + 1) (wrap64 (n + (y.size : Int))) hd2 (by omega) (fun h => by
      have := hb h
      rw [hnx h]
      omega)
    refine ⟨n', fun h => ?_, fun r hr => Ev.step (fun k => ?_) (h2 r hr)⟩
    · rw [h1 h, hnx h, List.map_cons, List.sum_cons]
      omega
    · rw [crossroadslaw10_ProgNames.l0, if_pos (by omega), if_pos (by omega), rdS hd, hw]
/-- What stands behind the last loop. -/
def fin (k : Nat) (l : List ByteArray) (n : Int) (B : List Int) (e : Int) (b : Bool) : Option Bool := if (l.length : Int) > 8 then (if e = 3 then (some ((B.length : Int) == 0)) else (none)) else (if b = true then (if e = 10 then (some ((B.length : Int) == 0)) else (none)) else ((prog_Read.f B).bind fun bt287 => (if e = 0 then (if bt287.2.2 = 0 then (if (B.length : Int) = (wrap64 ((wrap64 (4 + (l.length : Int))) + n)) then ((crossroadslaw10_Same.f k bt287.1 bt287.2.1 ([] : List (S41)) l).bind fun t295 => (some t295)) else (none)) else (none)) else (none))))
theorem names_l1 (l : List ByteArray) (hn : l.length ≤ 9223372036854775806) (n : Int) (B : List Int) (e : Int) (r : Bool) : ∀ (d : List ByteArray) (i : Nat) (b : Bool), l.drop i = d → i ≤ l.length → Ev (fun k => fin k l n B e (b || longV d)) r → Ev (fun k => crossroadslaw10_ProgNames.l1 k l n B e b (i : Int)) r
  | [], i, b, hd, hi, h => by
    have h1 : l.length ≤ i := List.drop_eq_nil_iff.1 hd
    rw [show (b || longV []) = b by unfold longV; simp] at h
    refine Ev.step (fun k => ?_) h
    rw [crossroadslaw10_ProgNames.l1, if_neg (by omega)]
    rfl
  | y :: d, i, b, hd, hi, h => by
    obtain ⟨hlt, hy, hd2⟩ := drop_at hd
    have hw : wrap64 ((i : Int) + 1) = ((i + 1 : Nat) : Int) := by unfold wrap64; omega
    cases b
    · refine Ev.step (fun k => ?_) (names_l1 l hn n B e r d (i + 1) (decide (255 < y.size)) hd2 (by omega) ?_)
      · rw [crossroadslaw10_ProgNames.l1, if_pos (by omega), if_neg (by decide), if_pos (by omega), rdS hd, hw, show decide ((y.size : Int) > 255) = decide (255 < y.size) from decide_eq_decide.2 (by omega)]
      · rw [show (false || longV (y :: d)) = (decide (255 < y.size) || longV d) by unfold longV; rw [List.any_cons, Bool.false_or]] at h
        exact h
    · refine Ev.step (fun k => ?_) (names_l1 l hn n B e r d (i + 1) true hd2 (by omega) ?_)
      · rw [crossroadslaw10_ProgNames.l1, if_pos (by omega), if_pos rfl, hw]
      · rw [Bool.true_or] at h ⊢
        exact h
theorem ProgNames : crossroadslaw10_ProgNames.Pure := by
  rintro l ⟨h1, _, h3⟩
  refine Ev.rounds ?_
  unfold crossroadslaw10_ProgNames.f
  refine Ev.congr (fun k => by rw [show crossroadslaw10_awake.f = some true from rfl, Option.bind_some, if_pos rfl]) ?_
  obtain ⟨n, hn, hr⟩ := names_l0 l (by omega) h3 l 0 0 rfl (Nat.zero_le _) (fun _ => ⟨by omega, by omega⟩)
  refine hr true ?_
  have jt : Ev (fun k => crossroadslaw10_ProgNames.j1 k l n true) true := Ev.step (f := fun _ => some true) (fun k => by rw [crossroadslaw10_ProgNames.j1, if_pos rfl]) (Ev.now _)
  by_cases hl : (l.length : Int) > 30
  · exact Ev.congr (fun k => if_pos hl) jt
  · refine Ev.congr (fun k => if_neg hl) ?_
    have hn' := hn (by omega)
    by_cases hb : n > 10000
    · rw [decide_eq_true hb]; exact jt
    · rw [decide_eq_false hb]
      refine Ev.step (f := fun k => (prog_Bytes.f k ([] : List S41) l).bind fun bt282 => (crossroadslaw10_ProgNames.l1 k l n bt282.1 bt282.2 false 0)) (fun k => by rw [crossroadslaw10_ProgNames.j1, if_neg (by decide)]) ?_
      refine Ev.bind (bytes_ev [] l) ?_
      refine names_l1 l (by omega) n _ _ true l 0 false rfl (Nat.zero_le _) ?_
      rw [Bool.false_or]
      by_cases h8 : 8 < l.length
      · have hm : mayV [] l = 3 := by unfold mayV; rw [if_pos (.inr h8)]
        have e : bytesV [] l = ([], 3) := by unfold bytesV; rw [hm, if_neg (by decide)]
        rw [e]
        refine Ev.congr (f := fun _ => some true) (fun k => ?_) (Ev.now _)
        unfold fin
        rw [if_pos (by omega), if_pos rfl]
        rfl
      · cases hlong : longV l
        · have hm : mayV [] l = 0 := by unfold mayV; rw [if_neg (by rintro (h | h); simp at h; omega), hlong, if_neg (by decide)]; rfl
          have e : bytesV [] l = (encB [] l, 0) := by unfold bytesV; rw [if_pos hm]
          rw [e]
          have hlen := enc_len hm
          refine Ev.congr (f := fun k => (crossroadslaw10_Same.f k [] l [] l).bind fun t => some t) (fun k => ?_) (Ev.bind (same_self [] l (by omega) (by simp)) (Ev.now _))
          unfold fin
          have hrd : prog_Read.f (encB [] l) = some ([], l, 0) := by
            unfold prog_Read.f
            rw [if_pos (okD_of (okB_enc [] l)), read_enc [] l hm]
          rw [if_neg (by omega), if_neg (by decide), hrd, Option.bind_some, if_pos rfl, if_pos rfl, if_pos]
          rw [hlen]
          have hw1 : wrap64 (4 + (l.length : Int)) = 4 + (l.length : Int) := by unfold wrap64; omega
          rw [hw1]
          unfold wrap64
          simp only [List.length_nil]
          omega
        · have hm : mayV [] l = 10 := by unfold mayV; rw [if_neg (by rintro (h | h); simp at h; omega), if_pos hlong]
          have e : bytesV [] l = ([], 10) := by unfold bytesV; rw [hm, if_neg (by decide)]
          rw [e]
          refine Ev.congr (f := fun _ => some true) (fun k => ?_) (Ev.now _)
          unfold fin
          rw [if_neg (by omega), if_pos rfl, if_pos rfl]
          rfl
end Go.Proofs.YtckmgoeflecpgaaDoor.Pure
