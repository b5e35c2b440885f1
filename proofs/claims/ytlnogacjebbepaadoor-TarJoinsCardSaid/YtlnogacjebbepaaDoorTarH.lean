/- What a head holds, place by place. Plain. -/
import Derived.Test.YtlnogacjebbepaaDoorTarW
namespace Go.Proofs.YtlnogacjebbepaaDoor.H
set_option linter.unusedVariables false
set_option linter.unusedSimpArgs false
open Go.RowKit Go.Proofs.YtlnogacjebbepaaDoor.P Go.Proofs.YtlnogacjebbepaaDoor.G Go.Proofs.YtlnogacjebbepaaDoorW.PrintWords Go.Proofs.YtlnogacjebbepaaDoorW.PrintLast Go.Proofs.YtlnogacjebbepaaDoorW.PrintMore
def okB (L : List Int) : Prop := ∀ x ∈ L, 0 ≤ x ∧ x < 256
theorem okB_app {a b : List Int} (h : okB a) (k : okB b) : okB (a ++ b) := fun x hx => (List.mem_append.1 hx).elim (h x) (k x)
theorem okB_take {a : List Int} (h : okB a) (n : Nat) : okB (a.take n) := fun x hx => h x (List.mem_of_mem_take hx)
theorem okB_drop {a : List Int} (h : okB a) (n : Nat) : okB (a.drop n) := fun x hx => h x (List.mem_of_mem_drop hx)
theorem okB_zs (n : Nat) : okB (zs n) := fun x hx => by
  have := (List.mem_replicate.1 hx).2
  omega
theorem okB_nums (s : ByteArray) : okB (nums s) := fun x hx => by
  obtain ⟨b, _, rfl⟩ := List.mem_map.1 hx
  have := b.toNat_lt
  omega
theorem okB_put {H s : List Int} (k : Nat) (h : okB H) (hs : okB s) : okB (putL H k s) := okB_app (okB_app (okB_take h k) hs) (okB_drop h _)
theorem okB_set {H : List Int} (k : Nat) {y : Int} (h : okB H) (hy : 0 ≤ y ∧ y < 256) : okB (H.set k y) := fun x hx => by
  rcases List.mem_or_eq_of_mem_set hx with hx | rfl
  · exact h x hx
  · exact hy
theorem okB_oct (n : Int) (d : Nat) (hd : d ≤ 20) : okB (octV n d) := by
  rw [octV_nums n d hd]
  exact okB_app (okB_nums _) (okB_zs 1)
theorem okB_pre (name : ByteArray) (dir : Bool) (n : Int) : okB (preL name dir n) := by
  unfold preL
  refine okB_put _ (okB_set _ (okB_put _ (okB_put _ (okB_put _ (okB_put _ (okB_put _ (okB_put _ (okB_zs 512) (okB_nums _)) (okB_oct _ 7 (by omega))) (okB_oct _ 7 (by omega))) (okB_oct _ 7 (by omega))) (okB_oct _ 11 (by omega))) (okB_oct _ 11 (by omega))) ?_) ?_
  · cases dir <;> decide
  · intro x hx; simp [magicL] at hx; omega
theorem okB_head (name : ByteArray) (dir : Bool) (n : Int) : okB (headL name dir n) := by
  unfold headL
  refine okB_put _ (okB_pre _ _ _) (okB_app (okB_oct _ 6 (by omega)) ?_)
  intro x hx; simp at hx; omega
theorem bytesOf_inj : ∀ {a b : List Int}, okB a → okB b → Lib.bytesOf a = Lib.bytesOf b → a = b
  | [], [], _, _, _ => rfl
  | [], y :: b, _, _, h => by simp [Lib.bytesOf] at h
  | x :: a, [], _, _, h => by simp [Lib.bytesOf] at h
  | x :: a, y :: b, ha, hb, h => by
    simp only [Lib.bytesOf, List.map_cons, List.cons.injEq] at h
    have hx := ha x (by simp)
    have hy := hb y (by simp)
    have e : x = y := by
      have := congrArg UInt8.toNat h.1
      rw [UInt8.toNat_ofNat', UInt8.toNat_ofNat'] at this
      omega
    rw [e, bytesOf_inj (fun z hz => ha z (by simp [hz])) (fun z hz => hb z (by simp [hz])) h.2]
theorem str_eq_iff {a b : List Int} (ha : okB a) (hb : okB b) : ((strOfNums a).toList == (strOfNums b).toList) = true ↔ a = b := by
  rw [beq_iff_eq, Lib.strOfNums_toList, Lib.strOfNums_toList]
  exact ⟨bytesOf_inj ha hb, fun h => by rw [h]⟩
theorem str_ne {a b : List Int} (ha : okB a) (hb : okB b) (h : a ≠ b) : ((strOfNums a).toList == (strOfNums b).toList) = false := by
  rw [Bool.eq_false_iff]
  exact fun hh => h ((str_eq_iff ha hb).1 hh)
theorem str_nums (s : ByteArray) : strOfNums (nums s) = s := by
  have e : (strOfNums (nums s)).data.toList = s.data.toList := by
    rw [← Lib.toList_data, Lib.strOfNums_toList]
    unfold Lib.bytesOf nums
    rw [List.map_map]
    have : ((fun n : Int => UInt8.ofNat n.toNat) ∘ fun b : UInt8 => (b.toNat : Int)) = id := by
      funext b
      simp
    rw [this, List.map_id]
  cases hs : strOfNums (nums s) with
  | mk d =>
    rw [hs] at e
    cases s with
    | mk d' => rw [ByteArray.mk.injEq]; exact Array.toList_inj.1 e
/-- A stretch of a list. -/
theorem mid_eq {L s : List Int} {k m : Nat} (hs : s.length = m) (hL : k + m ≤ L.length) (h : ∀ j, j < m → L[k + j]? = s[j]?) : (L.take (k + m)).drop k = s := by
  refine List.ext_getElem? fun j => ?_
  rw [List.getElem?_drop, List.getElem?_take]
  by_cases hj : j < m
  · rw [if_pos (by omega)]; exact h j hj
  · rw [if_neg (by omega), List.getElem?_eq_none (by omega)]
section
variable {name : ByteArray} {dir : Bool} {n : Int}
/-- The head behind the names and numbers: what stands at a place that none of the later fields covers. -/
theorem pre_get (h : name.size ≤ 99) (s : List Int) (k : Nat) (hs : ∀ i, i < s.length → k + i < 512)
    (hin : (k = 0 ∧ s = nums name) ∨ (k = 124 ∧ s = octV n 11) ∨ (k = 156 ∧ s = [kindOf dir]) ∨ (k = 257 ∧ s = magicL)) : ∀ i, i < s.length → (preL name dir n)[k + i]? = s[i]? := by
  intro i hi
  have ln := nums_len name
  have l7 : ∀ n, (octV n 7).length = 8 := fun n => octV_len n 7
  have l11 : ∀ n, (octV n 11).length = 12 := fun n => octV_len n 11
  have lm : magicL.length = 8 := rfl
  unfold preL
  generalize hA0 : putL (List.replicate 512 (0 : Int)) 0 (nums name) = A0
  have k0 : A0.length = 512 := by rw [← hA0]; exact putL_len' List.length_replicate (by omega)
  generalize hA1 : putL A0 100 (octV (modeOf dir) 7) = A1
  have k1 : A1.length = 512 := by rw [← hA1]; exact putL_len' k0 (by rw [l7]; omega)
  generalize hA2 : putL A1 108 (octV 0 7) = A2
  have k2 : A2.length = 512 := by rw [← hA2]; exact putL_len' k1 (by rw [l7]; omega)
  generalize hA3 : putL A2 116 (octV 0 7) = A3
  have k3 : A3.length = 512 := by rw [← hA3]; exact putL_len' k2 (by rw [l7]; omega)
  generalize hA4 : putL A3 124 (octV n 11) = A4
  have k4 : A4.length = 512 := by rw [← hA4]; exact putL_len' k3 (by rw [l11]; omega)
  generalize hA5 : putL A4 136 (octV 0 11) = A5
  have k5 : A5.length = 512 := by rw [← hA5]; exact putL_len' k4 (by rw [l11]; omega)
  generalize hA6 : A5.set 156 (kindOf dir) = A6
  have k6 : A6.length = 512 := by rw [← hA6, List.length_set]; exact k5
  have o7 : ∀ q, (q < 257 ∨ 265 ≤ q) → (putL A6 257 magicL)[q]? = A6[q]? := fun q hq => putL_out (by omega) (by omega)
  have o6 : ∀ q, q ≠ 156 → A6[q]? = A5[q]? := fun q hq => by rw [← hA6, List.getElem?_set_ne (by omega)]
  have o5 : ∀ q, (q < 136 ∨ 148 ≤ q) → A5[q]? = A4[q]? := fun q hq => by rw [← hA5]; exact putL_out (by rw [l11]; omega) (by rw [l11]; omega)
  have o4 : ∀ q, (q < 124 ∨ 136 ≤ q) → A4[q]? = A3[q]? := fun q hq => by rw [← hA4]; exact putL_out (by rw [l11]; omega) (by rw [l11]; omega)
  have o3 : ∀ q, (q < 116 ∨ 124 ≤ q) → A3[q]? = A2[q]? := fun q hq => by rw [← hA3]; exact putL_out (by rw [l7]; omega) (by rw [l7]; omega)
  have o2 : ∀ q, (q < 108 ∨ 116 ≤ q) → A2[q]? = A1[q]? := fun q hq => by rw [← hA2]; exact putL_out (by rw [l7]; omega) (by rw [l7]; omega)
  have o1 : ∀ q, (q < 100 ∨ 108 ≤ q) → A1[q]? = A0[q]? := fun q hq => by rw [← hA1]; exact putL_out (by rw [l7]; omega) (by rw [l7]; omega)
  rcases hin with ⟨rfl, rfl⟩ | ⟨rfl, rfl⟩ | ⟨rfl, rfl⟩ | ⟨rfl, rfl⟩
  · rw [o7 _ (by omega), o6 _ (by omega), o5 _ (by omega), o4 _ (by omega), o3 _ (by omega), o2 _ (by omega), o1 _ (by omega), ← hA0]
    exact putL_in (by rw [List.length_replicate]; omega) hi
  · rw [l11] at hi
    rw [o7 _ (by omega), o6 _ (by omega), o5 _ (by omega), ← hA4]
    exact putL_in (by rw [l11]; omega) (by rw [l11]; omega)
  · have hi0 : i = 0 := by simp at hi; omega
    subst hi0
    rw [o7 _ (by omega), ← hA6, List.getElem?_set_self (by omega)]
    rfl
  · exact putL_in (by omega) hi
/-- Behind the name, up to the rights: noughts. -/
theorem pre_zero (h : name.size ≤ 99) (i : Nat) (h1 : name.size ≤ i) (h2 : i < 100) : (preL name dir n)[i]? = some 0 := by
  have ln := nums_len name
  have l7 : ∀ n, (octV n 7).length = 8 := fun n => octV_len n 7
  have l11 : ∀ n, (octV n 11).length = 12 := fun n => octV_len n 11
  have lm : magicL.length = 8 := rfl
  unfold preL
  generalize hA0 : putL (List.replicate 512 (0 : Int)) 0 (nums name) = A0
  have k0 : A0.length = 512 := by rw [← hA0]; exact putL_len' List.length_replicate (by omega)
  generalize hA1 : putL A0 100 (octV (modeOf dir) 7) = A1
  have k1 : A1.length = 512 := by rw [← hA1]; exact putL_len' k0 (by rw [l7]; omega)
  generalize hA2 : putL A1 108 (octV 0 7) = A2
  have k2 : A2.length = 512 := by rw [← hA2]; exact putL_len' k1 (by rw [l7]; omega)
  generalize hA3 : putL A2 116 (octV 0 7) = A3
  have k3 : A3.length = 512 := by rw [← hA3]; exact putL_len' k2 (by rw [l7]; omega)
  generalize hA4 : putL A3 124 (octV n 11) = A4
  have k4 : A4.length = 512 := by rw [← hA4]; exact putL_len' k3 (by rw [l11]; omega)
  generalize hA5 : putL A4 136 (octV 0 11) = A5
  have k5 : A5.length = 512 := by rw [← hA5]; exact putL_len' k4 (by rw [l11]; omega)
  rw [putL_out (by rw [List.length_set]; omega) (by omega), List.getElem?_set_ne (by omega), ← hA5, putL_out (by rw [l11]; omega) (by rw [l11]; omega), ← hA4, putL_out (by rw [l11]; omega) (by rw [l11]; omega), ← hA3, putL_out (by rw [l7]; omega) (by rw [l7]; omega), ← hA2, putL_out (by rw [l7]; omega) (by rw [l7]; omega), ← hA1, putL_out (by rw [l7]; omega) (by rw [l7]; omega), ← hA0, putL_out (by rw [List.length_replicate]; omega) (by omega), List.getElem?_replicate, if_pos (by omega)]
theorem head_out (h : name.size ≤ 99) (i : Nat) (hi : i < 148 ∨ 156 ≤ i) : (headL name dir n)[i]? = (preL name dir n)[i]? := by
  unfold headL
  have hl := preL_len name dir n h
  have l : (octV (sumV (preL name dir n)) 6 ++ [32]).length = 8 := by rw [List.length_append, octV_len]; rfl
  exact putL_out (by omega) (by omega)
theorem head_sumField (h : name.size ≤ 99) : sumField (headL name dir n) = octV (sumV (preL name dir n)) 6 ++ [32] := by
  have hl := preL_len name dir n h
  have hl2 := headL_len name dir n h
  have l : (octV (sumV (preL name dir n)) 6 ++ [32]).length = 8 := by rw [List.length_append, octV_len]; rfl
  refine mid_eq (k := 148) (m := 8) l (by omega) fun j hj => ?_
  unfold headL
  exact putL_in (by omega) (by omega)
theorem head_num (h : name.size ≤ 99) : ((headL name dir n).take 135).drop 124 = nums (octS 11 n ⟨#[]⟩) := by
  have hl2 := headL_len name dir n h
  have lo : (nums (octS 11 n ⟨#[]⟩)).length = 11 := by rw [nums_len, octS_size]; rfl
  have l11 : (octV n 11).length = 12 := octV_len n 11
  refine mid_eq (k := 124) (m := 11) lo (by omega) fun j hj => ?_
  rw [head_out h _ (by omega), pre_get (dir := dir) h (octV n 11) 124 (fun i hi => by omega) (.inr (.inl ⟨rfl, rfl⟩)) j (by omega), octV_nums n 11 (by omega), List.getElem?_append_left (by omega)]
theorem head_kind (h : name.size ≤ 99) : rd (headL name dir n) 156 = kindOf dir := by
  have e : (headL name dir n)[156]? = some (kindOf dir) := by
    rw [head_out h _ (by omega)]
    exact pre_get (n := n) h [kindOf dir] 156 (fun i hi => by simp at hi; omega) (.inr (.inr (.inl ⟨rfl, rfl⟩))) 0 (by simp)
  unfold rd
  rw [List.getD_eq_getElem?_getD]
  show ((headL name dir n)[156]?).getD 0 = _
  rw [e]
  rfl
theorem head_magic (h : name.size ≤ 99) : (headL name dir n)[257]? = some 117 ∧ (headL name dir n)[258]? = some 115 := by
  have g := pre_get (dir := dir) (n := n) h magicL 257 (fun i hi => by have : magicL.length = 8 := rfl; omega) (.inr (.inr (.inr ⟨rfl, rfl⟩)))
  constructor
  · rw [head_out h _ (by omega)]; exact g 0 (by decide)
  · rw [head_out h _ (by omega)]; exact g 1 (by decide)
theorem head_name (h : name.size ≤ 99) : (headL name dir n).take 100 = nums name ++ zs (100 - name.size) := by
  have hl2 := headL_len name dir n h
  have ln := nums_len name
  refine List.ext_getElem? fun i => ?_
  rw [List.getElem?_take]
  by_cases hi : i < 100
  · rw [if_pos hi, head_out h _ (by omega)]
    by_cases hj : i < name.size
    · rw [List.getElem?_append_left (by omega)]
      have := pre_get (dir := dir) (n := n) h (nums name) 0 (fun i hi => by omega) (.inl ⟨rfl, rfl⟩) i (by omega)
      rw [Nat.zero_add] at this
      exact this
    · rw [List.getElem?_append_right (by omega), pre_zero h i (by omega) hi]
      unfold zs
      rw [List.getElem?_replicate, if_pos (by omega)]
  · rw [if_neg hi, List.getElem?_eq_none (by rw [List.length_append, zs_len]; omega)]
theorem bytesOf_nums (s : ByteArray) : Lib.bytesOf (nums s) = s.data.toList := by
  have e2 : (strOfNums (nums s)).data.toList = s.data.toList := congrArg (fun b : ByteArray => b.data.toList) (str_nums s)
  rw [← e2, ← Lib.toList_data, Lib.strOfNums_toList]
theorem idx_app (a : List UInt8) (b : List UInt8) (ha : (0 : UInt8) ∉ a) : Lib.indexByte (a ++ 0 :: b) 0 = (a.length : Int) := by
  induction a with
  | nil => simp [Lib.indexByte]
  | cons x a ih =>
    have hx : x ≠ 0 := fun e => ha (by simp [e])
    have ih := ih (fun h => ha (by simp [h]))
    rw [List.cons_append, Lib.indexByte, if_neg (by simpa using hx), ih, if_neg (by simp), List.length_cons]
    rfl
theorem name_of (h : ¬ badName name) : nameOf ((headL name dir n).take 100) = nums name := by
  have hn : name.size ≤ 99 := by unfold badName at h; omega
  have ln := nums_len name
  rw [head_name hn]
  have e : zs (100 - name.size) = 0 :: zs (99 - name.size) := by
    unfold zs
    have : 100 - name.size = (99 - name.size) + 1 := by omega
    rw [this, List.replicate_succ]
  have hb : Lib.bytesOf (nums name ++ zs (100 - name.size)) = name.data.toList ++ 0 :: Lib.bytesOf (zs (99 - name.size)) := by
    rw [e]
    unfold Lib.bytesOf
    rw [List.map_append, List.map_cons]
    congr 1
    exact bytesOf_nums name
  have hi : Lib.indexByte (Lib.bytesOf (nums name ++ zs (100 - name.size))) 0 = (name.size : Int) := by
    rw [hb, idx_app _ _ (fun hm => h (.inr (.inr hm))), Array.length_toList]
    rfl
  unfold nameOf
  rw [hi, if_pos (by omega), Int.toNat_natCast, List.take_append_of_le_length (by omega), List.take_of_length_le (by omega)]
end
/-! sums -/
theorem sumW_congr : ∀ (L L' : List Int) (a : Int) (i : Nat), L.length = L'.length → (∀ j, ¬ (148 ≤ i + j ∧ i + j < 156) → L[j]? = L'[j]?) → sumW a i L = sumW a i L'
  | [], [], a, i, _, _ => rfl
  | [], y :: L', a, i, h, _ => by simp at h
  | x :: L, [], a, i, h, _ => by simp at h
  | x :: L, y :: L', a, i, hl, h => by
    have h2 : ∀ j, ¬ (148 ≤ (i + 1) + j ∧ (i + 1) + j < 156) → L[j]? = L'[j]? := fun j hj => by
      have := h (j + 1) (by omega)
      simpa using this
    rw [sumW, sumW]
    by_cases c : 148 ≤ i ∧ i < 156
    · rw [if_pos c, if_pos c]
      exact sumW_congr L L' _ _ (by simpa using hl) h2
    · have := h 0 (by omega)
      have e : x = y := by simpa using this
      rw [if_neg c, if_neg c, e]
      exact sumW_congr L L' _ _ (by simpa using hl) h2
theorem head_sum {name : ByteArray} {dir : Bool} {n : Int} (h : name.size ≤ 99) : sumV (headL name dir n) = sumV (preL name dir n) := by
  unfold sumV
  refine sumW_congr _ _ _ _ (by rw [headL_len _ _ _ h, preL_len _ _ _ h]) fun j hj => ?_
  exact head_out h j (by omega)
theorem head_sumOk {name : ByteArray} {dir : Bool} {n : Int} (h : name.size ≤ 99) : sumOk (headL name dir n) = true := by
  unfold sumOk
  rw [head_sumField h, head_sum h]
  exact beq_self_eq_true _
/-! numbers -/
theorem and7 (n : Int) (h0 : 0 ≤ n) (h1 : n < 4611686018427387904) : Go.bits .and .i64 n 7 = n % 8 := by
  refine bits_mask .i64 62 (by decide) (fun n h0 h1 => ?_) 3 (by decide) n h0 h1
  rw [IntKind.wrap_i64]
  omega
theorem numL_digits : ∀ (m : Nat) (n : Int) (L : List Int), 0 ≤ n → n ≤ 524295 → n < 8 ^ m → numL 0 (digits m n ++ L) = numL n L
  | 0, n, L, h0, h1, h2 => by
    have : n = 0 := by simpa using (show n < 1 from h2) |> fun h => (by omega : n = 0)
    subst this; rfl
  | m + 1, n, L, h0, h1, h2 => by
    rw [digits, List.append_assoc, numL_digits m (n / 8) _ (by omega) (by omega) (by rw [Int.pow_succ] at h2; omega)]
    have e : dg0 n = 48 + n % 8 := by
      unfold dg0
      rw [and7 n h0 (by omega)]
      omega
    rw [List.singleton_append, numL, e, if_neg (by omega), orw (n / 8) (48 + n % 8 - 48) (by omega) (by omega) (by omega) (by omega)]
    congr 1
    omega
theorem numV_octS (n : Int) (h0 : 0 ≤ n) (h1 : n ≤ 524295) : numV (nums (octS 11 n ⟨#[]⟩)) = (n, true) := by
  have e : nums (octS 11 n ⟨#[]⟩) = digits 11 n ++ [] := by rw [nums_octS]; rfl
  unfold numV
  rw [e, numL_digits 11 n [] h0 h1 (by have : (8 : Int) ^ 11 = 8589934592 := by decide
                                       omega)]
  rfl
end Go.Proofs.YtlnogacjebbepaaDoor.H
