/- NamesSplit, the plain part: for every two texts the program's split, depth and order are the reference's. -/
import Derived.Test.YtpkdmnjonfophaaNamesLem
namespace Go.Proofs.Ytpkdmnjonfophaa.Pure
set_option linter.unusedVariables false
set_option linter.unusedSimpArgs false
open Go.RowKit Go.Proofs.Ytpkdmnjonfophaa.G Go.Proofs.Ytpkdmnjonfophaa.P Go.Proofs.Ytpkdmnjonfophaa.Lem Go.Proofs.YtpkdmnjonfophaaW.PrintWords Go.Proofs.YtpkdmnjonfophaaW.PrintLast Go.Proofs.YtpkdmnjonfophaaW.PrintMore
theorem letter_is (c : Int) : check_letter.f c = some (letterB c) := by
  unfold check_letter.f letterB
  by_cases h1 : c ≥ 97 <;> by_cases h2 : c ≤ 122 <;> by_cases h3 : c ≥ 48 <;> by_cases h4 : c ≤ 57 <;> by_cases h5 : c = 46 <;> simp [h1, h2, h3, h4, h5] <;> omega
theorem wrap_up {i n : Nat} (h : i < n) (hn : n ≤ 9223372036854775807) : wrap64 ((i : Int) + 1) = ((i + 1 : Nat) : Int) := by unfold wrap64; omega
theorem part_l0 (a : ByteArray) (hsz : a.size ≤ 9223372036854775807) : ∀ (l : List UInt8) (i : Nat), a.data.toList.drop i = l → Ev (fun k => check_part.l0 k a (a.size : Int) (i : Int)) (l.all letU && goodL a.data.toList)
  | [], i, h => by
    have hle : a.size ≤ i := by
      have := List.drop_eq_nil_iff.1 h
      exact this
    refine Ev.step (f := fun _ => some (goodL a.data.toList)) (fun k => ?_) (Ev.now _)
    rw [check_part.l0, if_neg (by omega), ByteArray.toList_eq]
    unfold goodL
    by_cases q1 : a.data.toList = []
    · rw [if_pos q1, q1]; rfl
    · rw [if_neg q1]
      by_cases q2 : a.data.toList = [46]
      · rw [if_pos q2, q2]; rfl
      · rw [if_neg q2, beq_eq_false_iff_ne.mpr q1, beq_eq_false_iff_ne.mpr q2]; rfl
  | b :: l, i, h => by
    obtain ⟨h1, h2, h3⟩ := bt_drop h
    have hl : letterB (bt a (i : Int)) = letU b := by rw [h2]; rfl
    cases hb : letU b with
    | true =>
      have ih := part_l0 a hsz l (i + 1) h3
      rw [List.all_cons, hb, Bool.true_and]
      refine Ev.step (fun k => ?_) ih
      rw [check_part.l0, if_pos (by omega), if_pos (by omega), if_pos (by omega), letter_is, hl, hb, Option.bind_some, if_pos rfl, wrap_up h1 hsz]
    | false =>
      rw [List.all_cons, hb, Bool.false_and, Bool.false_and]
      refine Ev.step (f := fun _ => some false) (fun k => ?_) (Ev.now _)
      rw [check_part.l0, if_pos (by omega), if_pos (by omega), if_pos (by omega), letter_is, hl, hb, Option.bind_some, if_neg (by decide)]
theorem part_is (a : ByteArray) (hsz : a.size ≤ 9223372036854775807) : Ev (fun k => check_part.f k a) (partL a.data.toList) := part_l0 a hsz a.data.toList 0 rfl
theorem cut_is (a : ByteArray) (hsz : a.size ≤ 9223372036854775807) : strings_Cut.f a (⟨#[47]⟩ : ByteArray) = some (cutS a) := if_pos ⟨rfl, hsz⟩
theorem ext_data (a : ByteArray) (i j : Nat) : (a.extract i j).data.toList = (a.data.toList.take j).drop i := by
  simp [ByteArray.data_extract, Array.toList_extract, List.extract, List.drop_take]
theorem cut_yes {a : ByteArray} (h : 0 ≤ slashAt a) : cutS a = (a.extract 0 (slashAt a).toNat, a.extract (slashAt a + 1).toNat a.size, true) := if_pos h
theorem cut_no {a : ByteArray} (h : ¬ 0 ≤ slashAt a) : cutS a = (a, ByteArray.empty, false) := if_neg h
theorem ext1 (a : ByteArray) (h : 0 ≤ slashAt a) : (a.extract 0 (slashAt a).toNat).data.toList = a.data.toList.take (slashAt a).toNat := by rw [ext_data]; rfl
theorem ext2 (a : ByteArray) (h : 0 ≤ slashAt a) : (a.extract (slashAt a + 1).toNat a.size).data.toList = a.data.toList.drop ((slashAt a).toNat + 1) := by
  rw [ext_data, List.take_of_length_le (show a.data.toList.length ≤ a.size from Nat.le_refl _), show (slashAt a + 1).toNat = (slashAt a).toNat + 1 by omega]
theorem size_ext (a : ByteArray) (i j : Nat) : (a.extract i j).size ≤ a.size := by
  show (a.extract i j).data.toList.length ≤ a.data.toList.length
  rw [ext_data, List.length_drop, List.length_take]; omega
theorem name_is (a : ByteArray) (hsz : a.size ≤ 140737488351232) : Ev (fun k => check_Name.f k a) (mayB a) := by
  rw [may_is]
  unfold check_Name.f
  by_cases h8 : (a.size : Int) > 8
  · rw [decide_eq_false (show ¬ a.size ≤ 8 by omega), Bool.and_false, Bool.false_and]
    exact Ev.congr (f := fun _ => some false) (fun k => by rw [if_pos h8]) (Ev.now _)
  · rw [decide_eq_true (show a.size ≤ 8 by omega), Bool.and_true]
    have hz : (decide (1 ≤ a.size) && checkL a.data.toList) = checkL a.data.toList := by
      by_cases h1 : 1 ≤ a.size
      · rw [decide_eq_true h1, Bool.true_and]
      · have : a.data.toList = [] := List.length_eq_zero_iff.1 (by show a.size = 0; omega)
        rw [this, show checkL [] = false by decide, Bool.and_false]
    rw [hz]
    unfold checkL
    have hs : Lib.indexByte a.data.toList 47 = slashAt a := rfl
    rw [hs]
    by_cases h0 : 0 ≤ slashAt a
    · rw [if_pos h0]
      have p1 := part_is (a.extract 0 (slashAt a).toNat) (by have := size_ext a 0 (slashAt a).toNat; omega)
      have p2 := part_is (a.extract (slashAt a + 1).toNat a.size) (by have := size_ext a (slashAt a + 1).toNat a.size; omega)
      rw [ext1 a h0] at p1
      rw [ext2 a h0] at p2
      refine Ev.congr (f := fun k => (check_part.f k (a.extract 0 (slashAt a).toNat)).bind fun t105 => (if t105 = true then ((check_part.f k (a.extract (slashAt a + 1).toNat a.size)).bind fun t106 => (some t106)) else (some false))) (fun k => by rw [if_neg h8, cut_is a (by omega), Option.bind_some, cut_yes h0]; simp -implicitDefEqProofs only [if_true]) ?_
      refine Ev.bind p1 ?_
      cases q : partL (a.data.toList.take (slashAt a).toNat) with
      | true => rw [Bool.true_and]; exact Ev.congr (f := fun k => (check_part.f k (a.extract (slashAt a + 1).toNat a.size)).bind fun t106 => (some t106)) (fun k => by rw [if_pos rfl]) (Ev.bind p2 (Ev.now _))
      | false => exact Ev.congr (f := fun _ => some false) (fun k => by rw [if_neg (by decide)]) (Ev.now _)
    · rw [if_neg h0]
      have p1 := part_is a (by omega)
      refine Ev.congr (f := fun k => (check_part.f k a).bind fun t105 => (if t105 = true then some true else (some false))) (fun k => by rw [if_neg h8, cut_is a (by omega), Option.bind_some, cut_no h0]; simp -implicitDefEqProofs only [Bool.false_eq_true, if_false]) ?_
      refine Ev.bind p1 ?_
      cases q : partL a.data.toList with
      | true => exact Ev.congr (f := fun _ => some true) (fun k => by rw [if_pos rfl]) (Ev.now _)
      | false => exact Ev.congr (f := fun _ => some false) (fun k => by rw [if_neg (by decide)]) (Ev.now _)
theorem nmay_is (a : ByteArray) (hsz : a.size ≤ 140737488351232) : Ev (fun k => names_May.f k a) (mayB a) := by
  unfold names_May.f
  exact Ev.bind (name_is a hsz) (Ev.now _)
/-- Both splits. -/
def splitB (a : ByteArray) : ByteArray × ByteArray := if mayB a = true then (if 0 ≤ slashAt a then (a.extract 0 (slashAt a).toNat, a.extract (slashAt a + 1).toNat a.size) else ((⟨#[]⟩ : ByteArray), a)) else ((⟨#[]⟩ : ByteArray), (⟨#[]⟩ : ByteArray))
theorem split_is (a : ByteArray) (hsz : a.size ≤ 140737488351232) : Ev (fun k => names_Split.f k a) (splitB a) := by
  unfold names_Split.f splitB
  refine Ev.bind (nmay_is a hsz) ?_
  by_cases hm : mayB a = true
  · rw [if_pos hm]
    by_cases h0 : 0 ≤ slashAt a
    · rw [if_pos h0]
      exact Ev.congr (f := fun _ => some _) (fun k => by rw [if_pos hm, cut_is a (by omega), Option.bind_some, cut_yes h0, if_pos rfl]) (Ev.now _)
    · rw [if_neg h0]
      exact Ev.congr (f := fun _ => some _) (fun k => by rw [if_pos hm, cut_is a (by omega), Option.bind_some, cut_no h0, if_neg (by intro h; cases h)]) (Ev.now _)
  · rw [if_neg hm]
    exact Ev.congr (f := fun _ => some _) (fun k => by rw [if_neg hm]) (Ev.now _)
theorem ref_l0 (a : ByteArray) (hsz : a.size ≤ 140737488351232) : ∀ (l : List UInt8) (i : Nat), i ≤ a.size → a.data.toList.drop i = l →
    Ev (fun k => crossroadsref12_Split.l0 k a (i : Int)) (if 0 ≤ Lib.indexByte l 47 then (a.extract 0 (i + (Lib.indexByte l 47).toNat), a.extract (i + (Lib.indexByte l 47).toNat + 1) a.size) else ((⟨#[]⟩ : ByteArray), a))
  | [], i, hi, h => by
    have hle : a.size ≤ i := List.drop_eq_nil_iff.1 h
    refine Ev.step (f := fun _ => some _) (fun k => ?_) (Ev.now _)
    rw [crossroadsref12_Split.l0, if_neg (by omega)]
    rfl
  | b :: l, i, hi, h => by
    obtain ⟨h1, h2, h3⟩ := bt_drop h
    have hw := wrap_up h1 (show a.size ≤ 9223372036854775807 by omega)
    by_cases hb : b = 47
    · subst hb
      have e : Lib.indexByte (47 :: l) 47 = 0 := by simp [Lib.indexByte]
      rw [e]
      refine Ev.step (f := fun _ => some _) (fun k => ?_) (Ev.now _)
      rw [crossroadsref12_Split.l0, if_pos (by omega), if_pos (by omega), h2, if_pos (by rfl), if_pos (by omega), hw, if_pos (by omega), if_pos (by omega)]
      rfl
    · have hbb : (b == 47) = false := beq_eq_false_iff_ne.mpr hb
      have ih := ref_l0 a hsz l (i + 1) (by omega) h3
      have e : (if 0 ≤ Lib.indexByte (b :: l) 47 then (a.extract 0 (i + (Lib.indexByte (b :: l) 47).toNat), a.extract (i + (Lib.indexByte (b :: l) 47).toNat + 1) a.size) else ((⟨#[]⟩ : ByteArray), a)) = (if 0 ≤ Lib.indexByte l 47 then (a.extract 0 (i + 1 + (Lib.indexByte l 47).toNat), a.extract (i + 1 + (Lib.indexByte l 47).toNat + 1) a.size) else ((⟨#[]⟩ : ByteArray), a)) := by
        have hge := Lib.indexByte_ge l 47
        rw [Lib.indexByte, hbb]
        by_cases hm : Lib.indexByte l 47 = -1
        · rw [hm]; rfl
        · have hmm : (Lib.indexByte l 47 == -1) = false := beq_eq_false_iff_ne.mpr hm
          rw [hmm]
          simp -implicitDefEqProofs only [Bool.false_eq_true, if_false]
          rw [if_pos (by omega), if_pos (by omega), show (Lib.indexByte l 47 + 1).toNat = (Lib.indexByte l 47).toNat + 1 by omega, show i + ((Lib.indexByte l 47).toNat + 1) = i + 1 + (Lib.indexByte l 47).toNat by omega]
      rw [e]
      refine Ev.step (fun k => ?_) ih
      rw [crossroadsref12_Split.l0, if_pos (by omega), if_pos (by omega), h2, if_neg (by intro e47; have e2 : (47 : UInt8).toNat = 47 := rfl; exact hb (UInt8.toNat_inj.1 (by omega))), hw]
theorem ref_is (a : ByteArray) (hsz : a.size ≤ 140737488351232) : Ev (fun k => crossroadsref12_Split.f k a) (splitB a) := by
  unfold crossroadsref12_Split.f splitB crossroadsref12_NameMay.f
  by_cases hm : mayB a = true
  · rw [if_pos hm]
    have h := ref_l0 a hsz a.data.toList 0 (Nat.zero_le _) rfl
    have e : (if 0 ≤ Lib.indexByte a.data.toList 47 then (a.extract 0 (0 + (Lib.indexByte a.data.toList 47).toNat), a.extract (0 + (Lib.indexByte a.data.toList 47).toNat + 1) a.size) else ((⟨#[]⟩ : ByteArray), a)) = (if 0 ≤ slashAt a then (a.extract 0 (slashAt a).toNat, a.extract (slashAt a + 1).toNat a.size) else ((⟨#[]⟩ : ByteArray), a)) := by
      show (if 0 ≤ slashAt a then (a.extract 0 (0 + (slashAt a).toNat), a.extract (0 + (slashAt a).toNat + 1) a.size) else ((⟨#[]⟩ : ByteArray), a)) = _
      by_cases h0 : 0 ≤ slashAt a
      · rw [if_pos h0, if_pos h0, Nat.zero_add, show (slashAt a + 1).toNat = (slashAt a).toNat + 1 by omega]
      · rw [if_neg h0, if_neg h0]
    rw [e] at h
    exact Ev.congr (fun k => by rw [Option.bind_some, if_pos hm]; rfl) h
  · rw [if_neg hm]
    exact Ev.congr (f := fun _ => some _) (fun k => by rw [Option.bind_some, if_neg hm]) (Ev.now _)
theorem let_slash {l : List UInt8} (h : l.all letU = true) : 47 ∉ l := fun hm => by
  have := List.all_eq_true.1 h 47 hm
  exact absurd this (by decide)
/-- Of a name: how many slashes; whether there is something ahead of one. -/
theorem may_deep (a : ByteArray) (hm : mayB a = true) : (0 ≤ slashAt a → Lib.countByte a.data.toList 47 = 1 ∧ (a.extract 0 (slashAt a).toNat).toList ≠ []) ∧ (¬ 0 ≤ slashAt a → Lib.countByte a.data.toList 47 = 0) := by
  rw [may_is] at hm
  simp only [Bool.and_eq_true] at hm
  have hc := hm.2
  unfold checkL at hc
  have hs : Lib.indexByte a.data.toList 47 = slashAt a := rfl
  constructor
  · intro h0
    rw [hs, if_pos h0, Bool.and_eq_true] at hc
    rcases slash_at a.data.toList with ⟨h1, _⟩ | ⟨x, y, hxy, h2, h3⟩
    · rw [hs] at h1; omega
    · rw [hs] at h3
      have e1 : a.data.toList.take (slashAt a).toNat = x := by rw [hxy, h3]; simp
      have e2 : a.data.toList.drop ((slashAt a).toNat + 1) = y := by rw [hxy, h3]; simp [List.drop_append]
      rw [e1, e2] at hc
      unfold partL at hc
      simp only [Bool.and_eq_true] at hc
      refine ⟨?_, ?_⟩
      · unfold Lib.countByte
        rw [hxy, List.count_append, List.count_cons_self, List.count_eq_zero.2 h2, List.count_eq_zero.2 (let_slash hc.2.1)]
      · rw [ByteArray.toList_eq, ext1 a h0, e1]
        intro hx
        subst hx
        exact absurd hc.1.2 (by decide)
  · intro h0
    rcases slash_at a.data.toList with ⟨_, h2⟩ | ⟨x, y, hxy, h2, h3⟩
    · unfold Lib.countByte
      exact List.count_eq_zero.2 h2
    · rw [hs] at h3; omega
/-- How deep a name is. -/
def deepB (a : ByteArray) : Int := if mayB a = true then (if 0 ≤ slashAt a then 2 else 1) else 0
theorem deep_is (a : ByteArray) (hsz : a.size ≤ 140737488351232) : Ev (fun k => names_Deep.f k a) (deepB a) := by
  unfold names_Deep.f deepB
  refine Ev.bind (nmay_is a hsz) ?_
  by_cases hm : mayB a = true
  · rw [if_pos hm]
    have hd := may_deep a hm
    have e : strings_Count.f a (⟨#[47]⟩ : ByteArray) = some ((Lib.countByte a.data.toList 47 : Nat) : Int) := if_pos rfl
    refine Ev.congr (f := fun _ => some _) (fun k => by rw [e, Option.bind_some]) ?_
    by_cases h0 : 0 ≤ slashAt a
    · rw [if_pos h0, (hd.1 h0).1, if_pos hm, show wrap64 (1 + ((1 : Nat) : Int)) = 2 by unfold wrap64; omega]; exact Ev.now _
    · rw [if_neg h0, hd.2 h0, if_pos hm, show wrap64 (1 + ((0 : Nat) : Int)) = 1 by unfold wrap64; omega]; exact Ev.now _
  · rw [if_neg hm]
    exact Ev.congr (f := fun _ => some _) (fun k => by rw [if_neg hm]) (Ev.now _)
theorem or_is (t u : Int) : Ev (fun k => cmp_Or_int.f k [t, u]) (if t = 0 then u else t) := by
  unfold cmp_Or_int.f
  have l2 : Ev (fun k => cmp_Or_int.l0 k 0 [t, u] 2 2) 0 := by
    refine Ev.step (f := fun _ => some (0 : Int)) (fun k => ?_) (Ev.now _)
    rw [cmp_Or_int.l0, if_neg (by decide)]
  have l1 : Ev (fun k => cmp_Or_int.l0 k 0 [t, u] 2 1) u := by
    by_cases hu : u = 0
    · subst hu
      refine Ev.step (fun k => ?_) l2
      rw [cmp_Or_int.l0, if_pos (by decide), if_pos (by decide), if_pos (by show (1 : Int) < 2; decide), if_pos (show rd [t, 0] 1 = 0 from rfl), show wrap64 (1 + 1) = 2 by unfold wrap64; omega]
    · refine Ev.step (f := fun _ => some u) (fun k => ?_) (Ev.now _)
      rw [cmp_Or_int.l0, if_pos (by decide), if_pos (by decide), if_pos (by show (1 : Int) < 2; decide), if_neg (show ¬ rd [t, u] 1 = 0 from hu)]
      rfl
  by_cases ht : t = 0
  · rw [if_pos ht]
    refine Ev.step (fun k => ?_) l1
    show cmp_Or_int.l0 (k + 1) 0 [t, u] 2 0 = _
    subst ht
    rw [cmp_Or_int.l0, if_pos (by decide), if_pos (by decide), if_pos (by show (0 : Int) < 2; decide), if_pos (show rd [0, u] 0 = 0 from rfl), show wrap64 (0 + 1) = 1 by unfold wrap64; omega]
  · rw [if_neg ht]
    refine Ev.step (f := fun _ => some t) (fun k => ?_) (Ev.now _)
    show cmp_Or_int.l0 (k + 1) 0 [t, u] 2 0 = _
    rw [cmp_Or_int.l0, if_pos (by decide), if_pos (by decide), if_pos (by show (0 : Int) < 2; decide), if_neg (show ¬ rd [t, u] 0 = 0 from ht)]
    rfl
/-- Whether one name is less. -/
def lessB (a b : ByteArray) : Bool := if Op.bytesLess (splitB a).1.toList (splitB b).1.toList = true then true else if (splitB a).1.toList = (splitB b).1.toList then Op.bytesLess (splitB a).2.toList (splitB b).2.toList else false
theorem cmp_less (a b : ByteArray) : (cmpS a b = 0 → Op.bytesLess a.toList b.toList = false ∧ a.toList = b.toList) ∧ (cmpS a b ≠ 0 → (decide (cmpS a b < 0) = Op.bytesLess a.toList b.toList) ∧ (Op.bytesLess a.toList b.toList = false → a.toList ≠ b.toList)) ∧ (decide (cmpS a b < 0) = Op.bytesLess a.toList b.toList) := by
  unfold cmpS
  cases q1 : Op.bytesLess a.toList b.toList
  · by_cases q2 : a.toList = b.toList
    · simp [q2]
    · have : (a.toList == b.toList) = false := beq_eq_false_iff_ne.mpr q2
      simp [this, q2]
  · simp
theorem less_is (a b : ByteArray) (ha : a.size ≤ 140737488351232) (hb : b.size ≤ 140737488351232) : Ev (fun k => names_Less.f k a b) (lessB a b) := by
  unfold names_Less.f
  refine Ev.bind (split_is a ha) (Ev.bind (split_is b hb) ?_)
  refine Ev.congr (f := fun k => (cmp_Or_int.f k [cmpS (splitB a).1 (splitB b).1, cmpS (splitB a).2 (splitB b).2]).bind fun t124 => (some (decide (t124 < 0)))) (fun k => rfl) ?_
  have e : lessB a b = decide ((if cmpS (splitB a).1 (splitB b).1 = 0 then cmpS (splitB a).2 (splitB b).2 else cmpS (splitB a).1 (splitB b).1) < 0) := by
    obtain ⟨c1, c2, -⟩ := cmp_less (splitB a).1 (splitB b).1
    obtain ⟨-, -, c3⟩ := cmp_less (splitB a).2 (splitB b).2
    unfold lessB
    by_cases h : cmpS (splitB a).1 (splitB b).1 = 0
    · rw [if_pos h, (c1 h).1, c3, if_neg (by decide), if_pos (c1 h).2]
    · rw [if_neg h, (c2 h).1]
      cases q : Op.bytesLess (splitB a).1.toList (splitB b).1.toList
      · rw [if_neg (by decide), if_neg ((c2 h).2 q)]
      · rw [if_pos rfl]
  rw [e]
  exact Ev.bind (or_is _ _) (Ev.now _)
theorem names_awake : Ev (fun k => crossroadslaw12_awake.f k) true := Ev.of crossroadslaw12_awake.mono (k := 40) (by kernel_rfl)
theorem split_j1 (a b : ByteArray) (ha : a.size ≤ 140737488351232) (hb : b.size ≤ 140737488351232) : Ev (fun k => crossroadslaw12_NamesSplit.j1 k a b (splitB a).1 (splitB a).2 (splitB a).1 (splitB a).2 (splitB b).1 (splitB b).2 (deepB a)) true := by
  refine Ev.step (f := fun k => (names_May.f k a).bind fun t140 => ((crossroadsref12_NameMay.f a).bind fun t141 => (if (t140 == t141) = true then (if (splitB a).1.toList = (splitB a).1.toList then (if (splitB a).2.toList = (splitB a).2.toList then ((names_Deep.f k a).bind fun t142 => (if t142 = deepB a then ((names_Less.f k a b).bind fun t143 => (if (Op.bytesLess (splitB a).1.toList (splitB b).1.toList) = true then (some (t143 == true)) else (if (splitB a).1.toList = (splitB b).1.toList then (some (t143 == (Op.bytesLess (splitB a).2.toList (splitB b).2.toList))) else (some (t143 == false))))) else (none))) else (none)) else (none)) else (none)))) (fun k => rfl) ?_
  refine Ev.bind (nmay_is a ha) ?_
  refine Ev.congr (f := fun k => (names_Deep.f k a).bind fun t142 => (if t142 = deepB a then ((names_Less.f k a b).bind fun t143 => (if (Op.bytesLess (splitB a).1.toList (splitB b).1.toList) = true then (some (t143 == true)) else (if (splitB a).1.toList = (splitB b).1.toList then (some (t143 == (Op.bytesLess (splitB a).2.toList (splitB b).2.toList))) else (some (t143 == false))))) else (none))) (fun k => by
    unfold crossroadsref12_NameMay.f
    rw [Option.bind_some, if_pos (by simp), if_pos rfl, if_pos rfl]) ?_
  refine Ev.bind (deep_is a ha) ?_
  refine Ev.congr (f := fun k => (names_Less.f k a b).bind fun t143 => (if (Op.bytesLess (splitB a).1.toList (splitB b).1.toList) = true then (some (t143 == true)) else (if (splitB a).1.toList = (splitB b).1.toList then (some (t143 == (Op.bytesLess (splitB a).2.toList (splitB b).2.toList))) else (some (t143 == false))))) (fun k => by rw [if_pos rfl]) ?_
  refine Ev.bind (less_is a b ha hb) ?_
  refine Ev.congr (f := fun _ => some true) (fun k => ?_) (Ev.now _)
  unfold lessB
  by_cases h1 : Op.bytesLess (splitB a).1.toList (splitB b).1.toList = true
  · rw [if_pos h1, if_pos h1]; rfl
  · rw [if_neg h1, if_neg h1]
    by_cases h2 : (splitB a).1.toList = (splitB b).1.toList
    · rw [if_pos h2, if_pos h2]; simp
    · rw [if_neg h2, if_neg h2]; rfl
theorem NamesSplit : crossroadslaw12_NamesSplit.Pure := by
  intro a b ha hb
  refine Ev.rounds ?_
  unfold crossroadslaw12_NamesSplit.f
  refine Ev.bind names_awake ?_
  have yes : Ev (fun k => crossroadslaw12_NamesSplit.j0 k a b true) true := Ev.step (fun k => by rw [crossroadslaw12_NamesSplit.j0, if_pos rfl]) (Ev.now true)
  have no : Ev (fun k => crossroadslaw12_NamesSplit.j0 k a b false) true := by
    refine Ev.step (f := fun k => (names_Split.f k a).bind fun bt133 => ((crossroadsref12_Split.f k a).bind fun bt135 => ((crossroadsref12_Split.f k b).bind fun bt137 => ((crossroadsref12_NameMay.f a).bind fun t139 => (if t139 = true then (if bt135.1.toList = ([] : List UInt8) then (crossroadslaw12_NamesSplit.j1 k a b bt133.1 bt133.2 bt135.1 bt135.2 bt137.1 bt137.2 1) else (crossroadslaw12_NamesSplit.j1 k a b bt133.1 bt133.2 bt135.1 bt135.2 bt137.1 bt137.2 2)) else (crossroadslaw12_NamesSplit.j1 k a b bt133.1 bt133.2 bt135.1 bt135.2 bt137.1 bt137.2 0)))))) (fun k => by rw [crossroadslaw12_NamesSplit.j0, if_neg (by decide)]) ?_
    refine Ev.bind (split_is a ha) (Ev.bind (ref_is a ha) (Ev.bind (ref_is b hb) ?_))
    refine Ev.congr (fun k => ?_) (split_j1 a b ha hb)
    unfold crossroadsref12_NameMay.f
    rw [Option.bind_some]
    unfold deepB
    by_cases hm : mayB a = true
    · rw [if_pos hm, if_pos hm]
      by_cases h0 : 0 ≤ slashAt a
      · have hne : (splitB a).1.toList ≠ [] := by
          unfold splitB
          rw [if_pos hm, if_pos h0]
          exact ((may_deep a hm).1 h0).2
        rw [if_pos h0, if_neg hne]
      · have he : (splitB a).1.toList = [] := by
          unfold splitB
          rw [if_pos hm, if_neg h0]
          exact ByteArray.toList_eq _
        rw [if_neg h0, if_pos he]
    · rw [if_neg hm, if_neg hm]
  refine Ev.congr (f := fun k => if (a.size : Int) > 300 then (crossroadslaw12_NamesSplit.j0 k a b true) else (crossroadslaw12_NamesSplit.j0 k a b (decide ((b.size : Int) > 300)))) (fun k => by rw [if_pos rfl]) ?_
  by_cases h1 : (a.size : Int) > 300
  · exact Ev.congr (fun k => by rw [if_pos h1]) yes
  · by_cases h2 : (b.size : Int) > 300
    · exact Ev.congr (fun k => by rw [if_neg h1, decide_eq_true h2]) yes
    · exact Ev.congr (fun k => by rw [if_neg h1, decide_eq_false h2]) no
end Go.Proofs.Ytpkdmnjonfophaa.Pure
