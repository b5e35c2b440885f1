/- tar's octal and Sum in closed words; a head. Plain. -/
import Derived.Test.YtlnogacjebbepaaDoorPx1
import Derived.Test.YtlnogacjebbepaaDoorEPut
namespace Go.Proofs.YtlnogacjebbepaaDoor.H
set_option linter.unusedVariables false
set_option linter.unusedSimpArgs false
open Go.RowKit Go.Proofs.YtlnogacjebbepaaDoor.P Go.Proofs.YtlnogacjebbepaaDoorW.PrintWords Go.Proofs.YtlnogacjebbepaaDoorW.PrintLast Go.Proofs.YtlnogacjebbepaaDoorW.PrintMore
theorem w64 {x : Int} (h : -9223372036854775808 ≤ x ∧ x ≤ 9223372036854775807) : wrap64 x = x := by unfold wrap64; omega
/-- A digit of base 8, told by its place. -/
def dg (n : Int) (i : Nat) : Int := (48 + ((Go.bits .and .i64 (shr .i64 n (3 * (i : Int))) 7) % 256)) % 256
def octL (n : Int) (d : Nat) : Nat → List Int → List Int
  | 0, L => L
  | m + 1, L => octL n d m (L.set m (dg n (d - (m + 1))))
def octV (n : Int) (d : Nat) : List Int := octL n d d (List.replicate (d + 1) 0)
theorem octL_len (n : Int) (d : Nat) : ∀ (m : Nat) (L : List Int), (octL n d m L).length = L.length
  | 0, L => rfl
  | m + 1, L => by rw [octL, octL_len n d m]; simp
theorem octV_len (n : Int) (d : Nat) : (octV n d).length = d + 1 := by unfold octV; rw [octL_len]; simp
theorem oct_l0 (n : Int) (d : Nat) (hd : d ≤ 100) : ∀ (m : Nat) (L : List Int) (i : Nat), i + m = d → L.length = d + 1 → Ev (fun k => tar_octal.l0 k n (d : Int) L (d : Int) (i : Int)) (octL n d m L)
  | 0, L, i, h, hl => Ev.step (f := fun _ => some L) (fun k => by rw [tar_octal.l0, if_neg (by omega)]) (Ev.now _)
  | m + 1, L, i, h, hl => by
    have ih := oct_l0 n d hd m (L.set m (dg n (d - (m + 1)))) (i + 1) (by omega) (by simpa using hl)
    have e1 : IntKind.u64.wrap (wrap64 (3 * (i : Int))) = 3 * (i : Int) := by
      rw [w64 (by omega)]
      simp [IntKind.wrap, IntKind.bits, IntKind.signed]
      omega
    have e2 : wrap64 (wrap64 ((d : Int) - 1) - (i : Int)) = (m : Int) := by rw [w64 (x := (d : Int) - 1) (by omega), w64 (by omega)]; omega
    have e3 : d - (m + 1) = i := by omega
    refine Ev.step (fun k => ?_) ih
    rw [tar_octal.l0, if_pos (by omega), e1, e2, if_pos (by omega), if_pos (by omega), if_pos (by omega), w64 (x := (i : Int) + 1) (by omega), e3]
    rfl
theorem oct_ev (n : Int) (d : Nat) (hd : d ≤ 100) : Ev (fun k => tar_octal.f k n (d : Int)) (octV n d) := by
  have e : wrap64 ((d : Int) + 1) = ((d + 1 : Nat) : Int) := by rw [w64 (by omega)]; rfl
  have := oct_l0 n d hd d (List.replicate (d + 1) 0) 0 (by omega) (by simp)
  refine Ev.congr (fun k => ?_) this
  unfold tar_octal.f
  rw [e, if_pos (by omega), if_pos (by omega)]
  rfl
def sumW : Int → Nat → List Int → Int
  | a, _, [] => a
  | a, i, x :: r => sumW (if 148 ≤ i ∧ i < 156 then wrap64 (a + 32) else wrap64 (a + wrap64 x)) (i + 1) r
theorem sum_l0 (H : List Int) (hH : H.length ≤ 100000) : ∀ (d : List Int) (a : Int) (i : Nat), i ≤ H.length → H.drop i = d → Ev (fun k => tar_Sum.l0 k a H (H.length : Int) (i : Int)) (sumW a i d)
  | [], a, i, hi, h => by
    have h1 : H.length - i = 0 := by rw [← List.length_drop, h]; rfl
    exact Ev.step (f := fun _ => some a) (fun k => by rw [tar_Sum.l0, if_neg (by omega)]) (Ev.now _)
  | x :: d, a, i, hi, h => by
    have hlt : i < H.length := by
      apply Decidable.byContradiction
      intro hn
      rw [List.drop_eq_nil_of_le (by omega)] at h
      cases h
    have h2 := h
    rw [List.drop_eq_getElem_cons hlt] at h2
    injection h2 with h3 h4
    have hx : rd H (i : Int) = x := by
      unfold rd
      rw [List.getD_eq_getElem?_getD, Int.toNat_natCast, List.getElem?_eq_getElem hlt]
      exact h3
    have ih := sum_l0 H hH d (if 148 ≤ i ∧ i < 156 then wrap64 (a + 32) else wrap64 (a + wrap64 x)) (i + 1) (by omega) h4
    refine Ev.step (fun k => ?_) ih
    rw [tar_Sum.l0, if_pos (by omega), if_pos (by omega), if_pos (by omega), hx, w64 (x := (i : Int) + 1) (by omega)]
    by_cases c1 : 148 ≤ i
    · by_cases c2 : i < 156
      · rw [if_pos (by omega), if_pos (by omega), if_pos ⟨c1, c2⟩]; rfl
      · rw [if_pos (by omega), if_neg (by omega), if_neg (fun hh => c2 hh.2)]; rfl
    · rw [if_neg (by omega), if_neg (fun hh => c1 hh.1)]; rfl
def sumV (H : List Int) : Int := sumW 0 0 H
theorem sum_ev (H : List Int) (hH : H.length ≤ 100000) : Ev (fun k => tar_Sum.f k H) (sumV H) := sum_l0 H hH H 0 0 (by omega) rfl
def kindOf (dir : Bool) : Int := if dir = true then 53 else 48
def modeOf (dir : Bool) : Int := if dir = true then 493 else 420
def magicL : List Int := [117, 115, 116, 97, 114, 0, 48, 48]
/-- A head before its sum. -/
def preL (name : ByteArray) (dir : Bool) (n : Int) : List Int :=
  putL ((putL (putL (putL (putL (putL (putL (List.replicate 512 0) 0 (nums name)) 100 (octV (modeOf dir) 7)) 108 (octV 0 7)) 116 (octV 0 7)) 124 (octV n 11)) 136 (octV 0 11)).set 156 (kindOf dir)) 257 magicL
def headL (name : ByteArray) (dir : Bool) (n : Int) : List Int := putL (preL name dir n) 148 (octV (sumV (preL name dir n)) 6 ++ [32])
theorem nums_len (s : ByteArray) : (nums s).length = s.size := by simp only [nums, List.length_map, Array.length_toList]; rfl
theorem putL_len' {H : List Int} {k m : Nat} {s : List Int} (hH : H.length = m) (h : k + s.length ≤ m) : (putL H k s).length = m := by rw [putL_len (by omega)]; exact hH
theorem preL_len (name : ByteArray) (dir : Bool) (n : Int) (h : name.size ≤ 99) : (preL name dir n).length = 512 := by
  unfold preL
  have hs : ∀ (L : List Int) (x : Int), L.length = 512 → (L.set 156 x).length = 512 := fun L x hL => by rw [List.length_set]; exact hL
  refine putL_len' (hs _ _ (putL_len' (putL_len' (putL_len' (putL_len' (putL_len' (putL_len' List.length_replicate ?_) ?_) ?_) ?_) ?_) ?_)) (by decide)
  all_goals simp only [octV_len, nums_len]
  all_goals omega
theorem headL_len (name : ByteArray) (dir : Bool) (n : Int) (h : name.size ≤ 99) : (headL name dir n).length = 512 := by
  unfold headL
  rw [putL_len, preL_len name dir n h]
  rw [preL_len name dir n h, List.length_append, octV_len]
  decide
end Go.Proofs.YtlnogacjebbepaaDoor.H
