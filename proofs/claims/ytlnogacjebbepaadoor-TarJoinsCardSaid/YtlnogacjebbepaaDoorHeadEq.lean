/- ref22's head is tar's. Plain. -/
import Derived.Test.YtlnogacjebbepaaDoorRHeadL
namespace Go.Proofs.YtlnogacjebbepaaDoor.H
set_option linter.unusedVariables false
set_option linter.unusedSimpArgs false
open Go.RowKit Go.Proofs.YtlnogacjebbepaaDoor.P Go.Proofs.YtlnogacjebbepaaDoorW.PrintWords Go.Proofs.YtlnogacjebbepaaDoorW.PrintLast Go.Proofs.YtlnogacjebbepaaDoorW.PrintMore
theorem putL_out {H : List Int} {k i : Nat} {s : List Int} (hk : k + s.length ≤ H.length) (h : i < k ∨ k + s.length ≤ i) : (putL H k s)[i]? = H[i]? := by
  unfold putL
  rw [List.append_assoc]
  rcases h with h | h
  · rw [List.getElem?_append_left (by rw [List.length_take]; omega), List.getElem?_take_of_lt h]
  · rw [List.getElem?_append_right (by rw [List.length_take]; omega), List.length_take, List.getElem?_append_right (by omega), List.getElem?_drop]
    congr 1
    omega
theorem putL_in {H : List Int} {k i : Nat} {s : List Int} (hk : k + s.length ≤ H.length) (h : i < s.length) : (putL H k s)[k + i]? = s[i]? := by
  unfold putL
  rw [List.append_assoc, List.getElem?_append_right (by rw [List.length_take]; omega), List.length_take, List.getElem?_append_left (by omega)]
  congr 1
  omega
theorem putL_zero {H : List Int} {k : Nat} {s : List Int} (h : H[k + s.length]? = some 0) : putL H k (s ++ [0]) = putL H k s := by
  unfold putL
  obtain ⟨hlt, he⟩ := List.getElem?_eq_some_iff.1 h
  rw [List.drop_eq_getElem_cons hlt, he, List.length_append]
  simp [Nat.add_assoc]
theorem putL_one (H : List Int) (k : Nat) (x : Int) (h : k < H.length) : putL H k [x] = H.set k x := by
  unfold putL
  rw [List.set_eq_take_append_cons_drop, if_pos h]
  simp
theorem nums_app (a b : ByteArray) : nums (a ++ b) = nums a ++ nums b := by
  unfold nums
  rw [ByteArray.data_append, Array.toList_append, List.map_append]
def digits : Nat → Int → List Int
  | 0, _ => []
  | m + 1, n => digits m (n / 8) ++ [dg0 n]
theorem bitsand7 (n : Int) : 0 ≤ dg0 n ∧ dg0 n < 256 := ⟨Int.emod_nonneg _ (by decide), Int.emod_lt_of_pos _ (by decide)⟩
theorem nums_one (x : Int) (h0 : 0 ≤ x) (h1 : x < 256) : nums (strOfNums [x]) = [x] := by
  have e : nums (strOfNums [x]) = [((x.toNat.toUInt8).toNat : Int)] := rfl
  rw [e]
  have e2 : (x.toNat.toUInt8).toNat = x.toNat := by
    rw [Nat.toUInt8_eq, UInt8.toNat_ofNat']
    omega
  rw [e2, Int.toNat_of_nonneg h0]
theorem nums_octS : ∀ (m : Nat) (n : Int) (s : ByteArray), nums (octS m n s) = digits m n ++ nums s
  | 0, n, s => by simp [octS, digits]
  | m + 1, n, s => by rw [octS, nums_octS m, digits, nums_app, nums_one _ (bitsand7 n).1 (bitsand7 n).2, List.append_assoc]
def digs (n : Int) (d : Nat) : Nat → List Int
  | 0 => []
  | m + 1 => digs n d m ++ [dg n (d - (m + 1))]
theorem octL_digs (n : Int) (d : Nat) : ∀ (m : Nat) (L : List Int), m < L.length → octL n d m L = digs n d m ++ L.drop m
  | 0, L, _ => by simp [octL, digs]
  | m + 1, L, h => by
    rw [octL, octL_digs n d m _ (by rw [List.length_set]; omega), digs, List.drop_set, if_neg (by omega), Nat.sub_self, List.append_assoc]
    congr 1
    rw [List.drop_eq_getElem_cons (by omega)]
    rfl
theorem dg_dg0 (n : Int) (i : Nat) (h : i ≤ 20) : dg n i = dg0 (n / 8 ^ i) := by
  unfold dg dg0 shr
  have e : min (3 * (i : Int)).toNat IntKind.i64.bits = 3 * i := by
    have : IntKind.i64.bits = 64 := rfl
    rw [this]; omega
  have e2 : (2 : Int) ^ (3 * i) = 8 ^ i := by rw [Int.pow_mul]; rfl
  rw [e, e2]
theorem digits_digs (n : Int) (d : Nat) (hd : d ≤ 20) : ∀ m, m ≤ d → digits m (n / 8 ^ (d - m)) = digs n d m
  | 0, _ => rfl
  | m + 1, h => by
    rw [digits, digs, dg_dg0 n _ (by omega)]
    congr 1
    have e : n / 8 ^ (d - (m + 1)) / 8 = n / 8 ^ (d - m) := by
      rw [Int.ediv_ediv_of_nonneg (Int.pow_nonneg (by decide))]
      congr 1
      have : d - m = d - (m + 1) + 1 := by omega
      rw [this, Int.pow_succ]
    rw [e]
    exact digits_digs n d hd m (by omega)
theorem octV_nums (n : Int) (d : Nat) (hd : d ≤ 20) : octV n d = nums (octS d n ⟨#[]⟩) ++ [0] := by
  unfold octV
  rw [octL_digs n d d _ (by simp), nums_octS, ← digits_digs n d hd d (Nat.le_refl _), Nat.sub_self]
  simp [nums]
theorem rheadL_eq (name : ByteArray) (dir : Bool) (n : Int) (h : name.size ≤ 99) : rheadL name dir n = headL name dir n := by
  have z7 : octV 0 7 = nums zs7 ++ [0] := by kernel_rfl
  have z11 : octV 0 11 = nums zs11 ++ [0] := by kernel_rfl
  have mo : octV (modeOf dir) 7 = nums (rmode dir) ++ [0] := by cases dir <;> kernel_rfl
  have ki : nums (rkind dir) = [kindOf dir] := by cases dir <;> rfl
  have ma : nums rmagic = magicL := rfl
  have lm : (nums (rmode dir)).length = 7 := by cases dir <;> rfl
  have l7 : (nums zs7).length = 7 := rfl
  have l11 : (nums zs11).length = 11 := rfl
  have lo : (nums (octS 11 n ⟨#[]⟩)).length = 11 := by rw [nums_len, octS_size]; rfl
  have on : octV n 11 = nums (octS 11 n ⟨#[]⟩) ++ [0] := octV_nums n 11 (by omega)
  have key : rpreL name dir n = preL name dir n := by
    unfold rpreL preL
    rw [mo, z7, z11, on, ma, ki]
    generalize hA : putL (List.replicate 512 0) 0 (nums name) = A0
    have hl0 : A0.length = 512 := by rw [← hA]; exact putL_len' List.length_replicate (by rw [nums_len]; omega)
    have hz0 : ∀ i, 99 ≤ i → i < 512 → A0[i]? = some 0 := fun i h1 h2 => by
      rw [← hA, putL_out (by rw [List.length_replicate, nums_len]; omega) (.inr (by rw [nums_len]; omega)), List.getElem?_replicate, if_pos h2]
    rw [putL_zero (H := A0) (by rw [lm]; exact hz0 107 (by omega) (by omega))]
    generalize hA1 : putL A0 100 (nums (rmode dir)) = A1
    have hl1 : A1.length = 512 := by rw [← hA1]; exact putL_len' hl0 (by omega)
    have hz1 : ∀ i, 107 ≤ i → i < 512 → A1[i]? = some 0 := fun i h1 h2 => by rw [← hA1, putL_out (by omega) (.inr (by omega))]; exact hz0 i (by omega) h2
    rw [putL_zero (H := A1) (by rw [l7]; exact hz1 115 (by omega) (by omega))]
    generalize hA2 : putL A1 108 (nums zs7) = A2
    have hl2 : A2.length = 512 := by rw [← hA2]; exact putL_len' hl1 (by omega)
    have hz2 : ∀ i, 115 ≤ i → i < 512 → A2[i]? = some 0 := fun i h1 h2 => by rw [← hA2, putL_out (by omega) (.inr (by omega))]; exact hz1 i (by omega) h2
    rw [putL_zero (H := A2) (by rw [l7]; exact hz2 123 (by omega) (by omega))]
    generalize hA3 : putL A2 116 (nums zs7) = A3
    have hl3 : A3.length = 512 := by rw [← hA3]; exact putL_len' hl2 (by omega)
    have hz3 : ∀ i, 123 ≤ i → i < 512 → A3[i]? = some 0 := fun i h1 h2 => by rw [← hA3, putL_out (by omega) (.inr (by omega))]; exact hz2 i (by omega) h2
    rw [putL_zero (H := A3) (by rw [lo]; exact hz3 135 (by omega) (by omega))]
    generalize hA4 : putL A3 124 (nums (octS 11 n ⟨#[]⟩)) = A4
    have hl4 : A4.length = 512 := by rw [← hA4]; exact putL_len' hl3 (by omega)
    have hz4 : ∀ i, 135 ≤ i → i < 512 → A4[i]? = some 0 := fun i h1 h2 => by rw [← hA4, putL_out (by omega) (.inr (by omega))]; exact hz3 i (by omega) h2
    rw [putL_zero (H := A4) (by rw [l11]; exact hz4 147 (by omega) (by omega))]
    rw [putL_one _ 156 _ (by rw [putL_len' hl4 (by omega)]; omega)]
  unfold rheadL headL
  rw [key, octV_nums _ 6 (by omega), nums_app, List.append_assoc]
  rfl
end Go.Proofs.YtlnogacjebbepaaDoor.H
