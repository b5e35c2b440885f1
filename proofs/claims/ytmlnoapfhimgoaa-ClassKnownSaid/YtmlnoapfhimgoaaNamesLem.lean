/- Names, in plain words: what the program's check says and what the reference says are one. -/
import Derived.Test.YtmlnoapfhimgoaaQx3
namespace Go.Proofs.Ytmlnoapfhimgoaa.Lem
set_option linter.unusedVariables false
open Go.RowKit Go.Proofs.Ytmlnoapfhimgoaa.G Go.Proofs.Ytmlnoapfhimgoaa.Q Go.Proofs.YtmlnoapfhimgoaaW.PrintWords Go.Proofs.YtmlnoapfhimgoaaW.PrintLast Go.Proofs.YtmlnoapfhimgoaaW.PrintMore
def letU (b : UInt8) : Bool := letterB (b.toNat : Int)
def goodL (p : List UInt8) : Bool := !(p == []) && !(p == [46]) && !(p == [46, 46])
def partL (p : List UInt8) : Bool := p.all letU && goodL p
/-- The reference's parts, on lists. -/
def sc : List UInt8 → List (List UInt8) → List UInt8 → Option (List (List UInt8))
  | [], done, cur => some (done ++ [cur])
  | b :: l, done, cur => if b = 47 then sc l (done ++ [cur]) [] else if letU b = true then sc l done (cur ++ [b]) else none
def fin : Option (List (List UInt8)) → Bool
  | none => false
  | some ps => ps.all goodL && decide (ps.length ≤ 2)
theorem sc_plain : ∀ (l : List UInt8) (done : List (List UInt8)) (cur : List UInt8), 47 ∉ l → sc l done cur = if l.all letU = true then some (done ++ [cur ++ l]) else none
  | [], done, cur, _ => by simp [sc]
  | b :: l, done, cur, h => by
    have hb : b ≠ 47 := fun e => h (e ▸ List.mem_cons_self)
    rw [sc, if_neg hb]
    by_cases hl : letU b = true
    · rw [if_pos hl, sc_plain l done (cur ++ [b]) (fun e => h (List.mem_cons_of_mem _ e))]
      simp [hl]
    · rw [if_neg hl, if_neg (by simp [hl])]
theorem sc_cut : ∀ (x y : List UInt8) (done : List (List UInt8)) (cur : List UInt8), 47 ∉ x → sc (x ++ 47 :: y) done cur = if x.all letU = true then sc y (done ++ [cur ++ x]) [] else none
  | [], y, done, cur, _ => by simp [sc]
  | b :: x, y, done, cur, h => by
    have hb : b ≠ 47 := fun e => h (e ▸ List.mem_cons_self)
    rw [List.cons_append, sc, if_neg hb]
    by_cases hl : letU b = true
    · rw [if_pos hl, sc_cut x y done (cur ++ [b]) (fun e => h (List.mem_cons_of_mem _ e))]
      simp [hl]
    · rw [if_neg hl, if_neg (by simp [hl])]
theorem sc_long : ∀ (l : List UInt8) (done : List (List UInt8)) (cur : List UInt8) (ps : List (List UInt8)), sc l done cur = some ps → done.length + 1 ≤ ps.length
  | [], done, cur, ps, h => by
    rw [sc] at h
    injection h with h
    subst h
    simp
  | b :: l, done, cur, ps, h => by
    rw [sc] at h
    split at h
    · have := sc_long l _ _ ps h
      simp at this
      omega
    · split at h
      · exact sc_long l _ _ ps h
      · cases h
theorem slash_at (l : List UInt8) : (Lib.indexByte l 47 = -1 ∧ 47 ∉ l) ∨ ∃ x y, l = x ++ 47 :: y ∧ 47 ∉ x ∧ Lib.indexByte l 47 = (x.length : Int) := by
  induction l with
  | nil => exact .inl ⟨rfl, by simp⟩
  | cons b l ih =>
    by_cases hb : b = 47
    · subst hb
      exact .inr ⟨[], l, rfl, by simp, by simp [Lib.indexByte]⟩
    · have hbb : (b == 47) = false := beq_eq_false_iff_ne.mpr hb
      rcases ih with ⟨h1, h2⟩ | ⟨x, y, rfl, h2, h3⟩
      · refine .inl ⟨?_, ?_⟩
        · rw [Lib.indexByte, hbb, h1]; rfl
        · intro h
          rcases List.mem_cons.1 h with h | h
          · exact hb h.symm
          · exact h2 h
      · refine .inr ⟨b :: x, y, rfl, ?_, ?_⟩
        · intro h
          rcases List.mem_cons.1 h with h | h
          · exact hb h.symm
          · exact h2 h
        · rw [Lib.indexByte, hbb, h3]
          have : ((x.length : Int) == -1) = false := beq_eq_false_iff_ne.mpr (by omega)
          rw [this]
          simp
/-- What the program's check says of a text, on lists. -/
def checkL (l : List UInt8) : Bool := if 0 ≤ Lib.indexByte l 47 then partL (l.take (Lib.indexByte l 47).toNat) && partL (l.drop ((Lib.indexByte l 47).toNat + 1)) else partL l
theorem part_slash (y1 y2 : List UInt8) : partL (y1 ++ 47 :: y2) = false := by
  unfold partL
  have : (y1 ++ 47 :: y2).all letU = false := by
    rw [List.all_eq_false]
    exact ⟨47, by simp, by decide⟩
  rw [this, Bool.false_and]
theorem fin_check (l : List UInt8) : fin (sc l [] []) = checkL l := by
  unfold checkL
  rcases slash_at l with ⟨h1, h2⟩ | ⟨x, y, rfl, h2, h3⟩
  · rw [if_neg (by omega), sc_plain l [] [] h2]
    unfold partL
    cases h : l.all letU <;> simp [fin]
  · rw [h3, if_pos (by omega), sc_cut x y [] [] h2]
    have e1 : (x ++ 47 :: y).take ((x.length : Int)).toNat = x := by simp
    have e2 : (x ++ 47 :: y).drop (((x.length : Int)).toNat + 1) = y := by simp [List.drop_append]
    rw [e1, e2]
    by_cases hx : x.all letU = true
    · rw [if_pos hx]
      rcases slash_at y with ⟨h4, h5⟩ | ⟨y1, y2, rfl, h5, h6⟩
      · rw [sc_plain y _ [] h5]
        unfold partL
        rw [hx]
        cases h : y.all letU <;> simp [fin]
      · rw [part_slash, Bool.and_false, sc_cut y1 y2 _ [] h5]
        split
        · cases hs : sc y2 ([] ++ [[] ++ x] ++ [[] ++ y1]) [] with
          | none => rfl
          | some ps =>
            have := sc_long _ _ _ _ hs
            simp at this
            show (ps.all goodL && decide (ps.length ≤ 2)) = false
            rw [decide_eq_false (by omega), Bool.and_false]
        · rfl
    · rw [if_neg hx]
      unfold partL
      rw [Bool.eq_false_iff.mpr hx]
      rfl
def mk (l : List UInt8) : ByteArray := ⟨l.toArray⟩
theorem mk_data (l : List UInt8) : (mk l).data.toList = l := by simp [mk]
theorem bt_drop {a : ByteArray} {i : Nat} {b : UInt8} {l : List UInt8} (h : a.data.toList.drop i = b :: l) : i < a.size ∧ bt a (i : Int) = (b.toNat : Int) ∧ a.data.toList.drop (i + 1) = l := by
  have hlt : i < a.data.toList.length := by
    apply Decidable.byContradiction
    intro hn
    rw [List.drop_eq_nil_of_le (by omega)] at h
    cases h
  have hsz : i < a.size := hlt
  rw [List.drop_eq_getElem_cons hlt] at h
  injection h with h1 h2
  refine ⟨hsz, ?_, h2⟩
  unfold bt
  rw [dif_pos (show (i : Int).toNat < a.size by rw [Int.toNat_natCast]; exact hsz)]
  rw [← h1]
  simp [ByteArray.getElem_eq_getElem_data]
theorem str_one (b : UInt8) : strOfNums [(b.toNat : Int)] = mk [b] := by
  apply WideShapes.bytes_inj
  rw [strOfNums_data, mk_data]
  simp
theorem mk_snoc (l : List UInt8) (b : UInt8) : mk l ++ mk [b] = mk (l ++ [b]) := by
  apply WideShapes.bytes_inj
  rw [ByteArray.data_append, Array.toList_append, mk_data, mk_data, mk_data]
theorem scan_sc (a : ByteArray) : ∀ (l : List UInt8) (i : Nat) (done : List (List UInt8)) (cur : List UInt8), a.data.toList.drop i = l →
    scan a l.length (i : Int) ((done ++ [cur]).map mk) = (sc l done cur).map (List.map mk)
  | [], i, done, cur, h => by rw [sc]; rfl
  | b :: l, i, done, cur, h => by
    obtain ⟨h1, h2, h3⟩ := bt_drop h
    rw [List.length_cons, scan, sc, h2]
    by_cases hb : b = 47
    · rw [if_pos hb, if_pos (by subst hb; rfl)]
      have := scan_sc a l (i + 1) (done ++ [cur]) [] h3
      rw [List.map_append] at this
      exact this
    · rw [if_neg hb, if_neg (by intro e; have e47 : (47 : UInt8).toNat = 47 := rfl; exact hb (UInt8.toNat_inj.1 (by omega)))]
      have hl : letterB (b.toNat : Int) = letU b := rfl
      rw [hl]
      by_cases hl2 : letU b = true
      · rw [if_pos hl2, if_pos hl2]
        have := scan_sc a l (i + 1) done (cur ++ [b]) h3
        rw [← this]
        congr 1
        rw [List.map_append, List.map_append, List.length_append, List.length_map, List.length_map]
        show (done.map mk ++ [mk cur]).set (done.length + 1 - 1) ((done.map mk ++ [mk cur]).getD (done.length + 1 - 1) _ ++ strOfNums [(b.toNat : Int)]) = done.map mk ++ [mk (cur ++ [b])]
        rw [Nat.add_sub_cancel, List.set_append_right _ _ (by simp), List.getD_eq_getElem?_getD, List.getElem?_append_right (by simp), str_one]
        simp [mk_snoc]
      · rw [if_neg hl2, if_neg hl2]; rfl
theorem good_mk (p : List UInt8) : goodP (mk p) = goodL p := by
  unfold goodP goodL
  rw [ByteArray.toList_eq, mk_data]
theorem res_fin (x : Option (List (List UInt8))) : res (x.map (List.map mk)) = fin x := by
  cases x with
  | none => rfl
  | some ps =>
    show ((ps.map mk).all goodP && decide ((ps.map mk).length ≤ 2)) = (ps.all goodL && decide (ps.length ≤ 2))
    rw [List.length_map, List.all_map]
    congr 2
    funext p
    exact good_mk p
theorem may_is (a : ByteArray) : mayB a = (decide (1 ≤ a.size) && decide (a.size ≤ 8) && checkL a.data.toList) := by
  unfold mayB
  have h := scan_sc a a.data.toList 0 [] [] rfl
  have e : a.data.toList.length = a.size := rfl
  rw [e] at h
  have h' : scan a a.size 0 [(⟨#[]⟩ : ByteArray)] = (sc a.data.toList [] []).map (List.map mk) := h
  rw [h', res_fin, fin_check]
theorem letter_is (c : Int) : check_letter.f c = some (letterB c) := by
  unfold check_letter.f letterB
  by_cases h1 : c ≥ 97 <;> by_cases h2 : c ≤ 122 <;> by_cases h3 : c ≥ 48 <;> by_cases h4 : c ≤ 57 <;> by_cases h5 : c = 46 <;> simp [h1, h2, h3, h4, h5] <;> omega
theorem wrap_up {i n : Nat} (h : i < n) (hn : n ≤ 9223372036854775807) : wrap64 ((i : Int) + 1) = ((i + 1 : Nat) : Int) := by unfold wrap64; omega
theorem part_l0 (a : ByteArray) (hsz : a.size ≤ 9223372036854775807) : ∀ (l : List UInt8) (i : Nat), a.data.toList.drop i = l → Ev (fun k => check_part.l0 k a (a.size : Int) (i : Int)) (l.all letU && goodL a.data.toList)
  | [], i, h => by
    have hle : a.size ≤ i := by
      have := List.drop_eq_nil_iff.1 h
      exact this
    refine Ev.step (f := fun _ => some (goodL a.data.toList)) (fun k => ?_) (Ev.now _)
    rw [check_part.l0, if_neg (by omega), ByteArray.toList_eq]
    unfold goodL
    by_cases q1 : a.data.toList = []
    · rw [if_pos q1, q1]; rfl
    · rw [if_neg q1]
      by_cases q2 : a.data.toList = [46]
      · rw [if_pos q2, q2]; rfl
      · rw [if_neg q2, beq_eq_false_iff_ne.mpr q1, beq_eq_false_iff_ne.mpr q2]; rfl
  | b :: l, i, h => by
    obtain ⟨h1, h2, h3⟩ := bt_drop h
    have hl : letterB (bt a (i : Int)) = letU b := by rw [h2]; rfl
    cases hb : letU b with
    | true =>
      have ih := part_l0 a hsz l (i + 1) h3
      rw [List.all_cons, hb, Bool.true_and]
      refine Ev.step (fun k => ?_) ih
      rw [check_part.l0, if_pos (by omega), if_pos (by omega), if_pos (by omega), letter_is, hl, hb, Option.bind_some, if_pos rfl, wrap_up h1 hsz]
    | false =>
      rw [List.all_cons, hb, Bool.false_and, Bool.false_and]
      refine Ev.step (f := fun _ => some false) (fun k => ?_) (Ev.now _)
      rw [check_part.l0, if_pos (by omega), if_pos (by omega), if_pos (by omega), letter_is, hl, hb, Option.bind_some, if_neg (by decide)]
theorem part_is (a : ByteArray) (hsz : a.size ≤ 9223372036854775807) : Ev (fun k => check_part.f k a) (partL a.data.toList) := part_l0 a hsz a.data.toList 0 rfl
theorem cut_is (a : ByteArray) (hsz : a.size ≤ 9223372036854775807) : strings_Cut.f a (⟨#[47]⟩ : ByteArray) = some (cutS a) := if_pos ⟨rfl, hsz⟩
theorem ext_data (a : ByteArray) (i j : Nat) : (a.extract i j).data.toList = (a.data.toList.take j).drop i := by
  simp [ByteArray.data_extract, Array.toList_extract, List.extract, List.drop_take]
theorem cut_yes {a : ByteArray} (h : 0 ≤ slashAt a) : cutS a = (a.extract 0 (slashAt a).toNat, a.extract (slashAt a + 1).toNat a.size, true) := if_pos h
theorem cut_no {a : ByteArray} (h : ¬ 0 ≤ slashAt a) : cutS a = (a, ByteArray.empty, false) := if_neg h
theorem ext1 (a : ByteArray) (h : 0 ≤ slashAt a) : (a.extract 0 (slashAt a).toNat).data.toList = a.data.toList.take (slashAt a).toNat := by rw [ext_data]; rfl
theorem ext2 (a : ByteArray) (h : 0 ≤ slashAt a) : (a.extract (slashAt a + 1).toNat a.size).data.toList = a.data.toList.drop ((slashAt a).toNat + 1) := by
  rw [ext_data, List.take_of_length_le (show a.data.toList.length ≤ a.size from Nat.le_refl _), show (slashAt a + 1).toNat = (slashAt a).toNat + 1 by omega]
theorem size_ext (a : ByteArray) (i j : Nat) : (a.extract i j).size ≤ a.size := by
  show (a.extract i j).data.toList.length ≤ a.data.toList.length
  rw [ext_data, List.length_drop, List.length_take]; omega
theorem name_is (a : ByteArray) (hsz : a.size ≤ 140737488351232) : Ev (fun k => check_Name.f k a) (mayB a) := by
  rw [may_is]
  unfold check_Name.f
  by_cases h8 : (a.size : Int) > 8
  · rw [decide_eq_false (show ¬ a.size ≤ 8 by omega), Bool.and_false, Bool.false_and]
    exact Ev.congr (f := fun _ => some false) (fun k => by rw [if_pos h8]) (Ev.now _)
  · rw [decide_eq_true (show a.size ≤ 8 by omega), Bool.and_true]
    have hz : (decide (1 ≤ a.size) && checkL a.data.toList) = checkL a.data.toList := by
      by_cases h1 : 1 ≤ a.size
      · rw [decide_eq_true h1, Bool.true_and]
      · have : a.data.toList = [] := List.length_eq_zero_iff.1 (by show a.size = 0; omega)
        rw [this, show checkL [] = false by decide, Bool.and_false]
    rw [hz]
    unfold checkL
    have hs : Lib.indexByte a.data.toList 47 = slashAt a := rfl
    rw [hs]
    by_cases h0 : 0 ≤ slashAt a
    · rw [if_pos h0]
      have p1 := part_is (a.extract 0 (slashAt a).toNat) (by have := size_ext a 0 (slashAt a).toNat; omega)
      have p2 := part_is (a.extract (slashAt a + 1).toNat a.size) (by have := size_ext a (slashAt a + 1).toNat a.size; omega)
      rw [ext1 a h0] at p1
      rw [ext2 a h0] at p2
      refine Ev.congr (f := fun k => (check_part.f k (a.extract 0 (slashAt a).toNat)).bind fun t105 => (if t105 = true then ((check_part.f k (a.extract (slashAt a + 1).toNat a.size)).bind fun t106 => (some t106)) else (some false))) (fun k => by rw [if_neg h8, cut_is a (by omega), Option.bind_some, cut_yes h0]; simp -implicitDefEqProofs only [if_true]) ?_
      refine Ev.bind p1 ?_
      cases q : partL (a.data.toList.take (slashAt a).toNat) with
      | true => rw [Bool.true_and]; exact Ev.congr (f := fun k => (check_part.f k (a.extract (slashAt a + 1).toNat a.size)).bind fun t106 => (some t106)) (fun k => by rw [if_pos rfl]) (Ev.bind p2 (Ev.now _))
      | false => exact Ev.congr (f := fun _ => some false) (fun k => by rw [if_neg (by decide)]) (Ev.now _)
    · rw [if_neg h0]
      have p1 := part_is a (by omega)
      refine Ev.congr (f := fun k => (check_part.f k a).bind fun t105 => (if t105 = true then some true else (some false))) (fun k => by rw [if_neg h8, cut_is a (by omega), Option.bind_some, cut_no h0]; simp -implicitDefEqProofs only [Bool.false_eq_true, if_false]) ?_
      refine Ev.bind p1 ?_
      cases q : partL a.data.toList with
      | true => exact Ev.congr (f := fun _ => some true) (fun k => by rw [if_pos rfl]) (Ev.now _)
      | false => exact Ev.congr (f := fun _ => some false) (fun k => by rw [if_neg (by decide)]) (Ev.now _)
theorem nmay_is (a : ByteArray) (hsz : a.size ≤ 140737488351232) : Ev (fun k => names_May.f k a) (mayB a) := by
  unfold names_May.f
  exact Ev.bind (name_is a hsz) (Ev.now _)
/-- Both splits. -/
def splitB (a : ByteArray) : ByteArray × ByteArray := if mayB a = true then (if 0 ≤ slashAt a then (a.extract 0 (slashAt a).toNat, a.extract (slashAt a + 1).toNat a.size) else ((⟨#[]⟩ : ByteArray), a)) else ((⟨#[]⟩ : ByteArray), (⟨#[]⟩ : ByteArray))
theorem split_is (a : ByteArray) (hsz : a.size ≤ 140737488351232) : Ev (fun k => names_Split.f k a) (splitB a) := by
  unfold names_Split.f splitB
  refine Ev.bind (nmay_is a hsz) ?_
  by_cases hm : mayB a = true
  · rw [if_pos hm]
    by_cases h0 : 0 ≤ slashAt a
    · rw [if_pos h0]
      exact Ev.congr (f := fun _ => some _) (fun k => by rw [if_pos hm, cut_is a (by omega), Option.bind_some, cut_yes h0, if_pos rfl]) (Ev.now _)
    · rw [if_neg h0]
      exact Ev.congr (f := fun _ => some _) (fun k => by rw [if_pos hm, cut_is a (by omega), Option.bind_some, cut_no h0, if_neg (by intro h; cases h)]) (Ev.now _)
  · rw [if_neg hm]
    exact Ev.congr (f := fun _ => some _) (fun k => by rw [if_neg hm]) (Ev.now _)
theorem ref_l0 (a : ByteArray) (hsz : a.size ≤ 140737488351232) : ∀ (l : List UInt8) (i : Nat), i ≤ a.size → a.data.toList.drop i = l →
    Ev (fun k => crossroadsref12_Split.l0 k a (i : Int)) (if 0 ≤ Lib.indexByte l 47 then (a.extract 0 (i + (Lib.indexByte l 47).toNat), a.extract (i + (Lib.indexByte l 47).toNat + 1) a.size) else ((⟨#[]⟩ : ByteArray), a))
  | [], i, hi, h => by
    have hle : a.size ≤ i := List.drop_eq_nil_iff.1 h
    refine Ev.step (f := fun _ => some _) (fun k => ?_) (Ev.now _)
    rw [crossroadsref12_Split.l0, if_neg (by omega)]
    rfl
  | b :: l, i, hi, h => by
    obtain ⟨h1, h2, h3⟩ := bt_drop h
    have hw := wrap_up h1 (show a.size ≤ 9223372036854775807 by omega)
    by_cases hb : b = 47
    · subst hb
      have e : Lib.indexByte (47 :: l) 47 = 0 := by simp [Lib.indexByte]
      rw [e]
      refine Ev.step (f := fun _ => some _) (fun k => ?_) (Ev.now _)
      rw [crossroadsref12_Split.l0, if_pos (by omega), if_pos (by omega), h2, if_pos (by rfl), if_pos (by omega), hw, if_pos (by omega), if_pos (by omega)]
      rfl
    · have hbb : (b == 47) = false := beq_eq_false_iff_ne.mpr hb
      have ih := ref_l0 a hsz l (i + 1) (by omega) h3
      have e : (if 0 ≤ Lib.indexByte (b :: l) 47 then (a.extract 0 (i + (Lib.indexByte (b :: l) 47).toNat), a.extract (i + (Lib.indexByte (b :: l) 47).toNat + 1) a.size) else ((⟨#[]⟩ : ByteArray), a)) = (if 0 ≤ Lib.indexByte l 47 then (a.extract 0 (i + 1 + (Lib.indexByte l 47).toNat), a.extract (i + 1 + (Lib.indexByte l 47).toNat + 1) a.size) else ((⟨#[]⟩ : ByteArray), a)) := by
        have hge := Lib.indexByte_ge l 47
        rw [Lib.indexByte, hbb]
        by_cases hm : Lib.indexByte l 47 = -1
        · rw [hm]; rfl
        · have hmm : (Lib.indexByte l 47 == -1) = false := beq_eq_false_iff_ne.mpr hm
          rw [hmm]
          simp -implicitDefEqProofs only [Bool.false_eq_true, if_false]
          rw [if_pos (by omega), if_pos (by omega), show (Lib.indexByte l 47 + 1).toNat = (Lib.indexByte l 47).toNat + 1 by omega, show i + ((Lib.indexByte l 47).toNat + 1) = i + 1 + (Lib.indexByte l 47).toNat by omega]
      rw [e]
      refine Ev.step (fun k => ?_) ih
      rw [crossroadsref12_Split.l0, if_pos (by omega), if_pos (by omega), h2, if_neg (by intro e47; have e2 : (47 : UInt8).toNat = 47 := rfl; exact hb (UInt8.toNat_inj.1 (by omega))), hw]
theorem ref_is (a : ByteArray) (hsz : a.size ≤ 140737488351232) : Ev (fun k => crossroadsref12_Split.f k a) (splitB a) := by
  unfold crossroadsref12_Split.f splitB crossroadsref12_NameMay.f
  by_cases hm : mayB a = true
  · rw [if_pos hm]
    have h := ref_l0 a hsz a.data.toList 0 (Nat.zero_le _) rfl
    have e : (if 0 ≤ Lib.indexByte a.data.toList 47 then (a.extract 0 (0 + (Lib.indexByte a.data.toList 47).toNat), a.extract (0 + (Lib.indexByte a.data.toList 47).toNat + 1) a.size) else ((⟨#[]⟩ : ByteArray), a)) = (if 0 ≤ slashAt a then (a.extract 0 (slashAt a).toNat, a.extract (slashAt a + 1).toNat a.size) else ((⟨#[]⟩ : ByteArray), a)) := by
      show (if 0 ≤ slashAt a then (a.extract 0 (0 + (slashAt a).toNat), a.extract (0 + (slashAt a).toNat + 1) a.size) else ((⟨#[]⟩ : ByteArray), a)) = _
      by_cases h0 : 0 ≤ slashAt a
      · rw [if_pos h0, if_pos h0, Nat.zero_add, show (slashAt a + 1).toNat = (slashAt a).toNat + 1 by omega]
      · rw [if_neg h0, if_neg h0]
    rw [e] at h
    exact Ev.congr (fun k => by rw [Option.bind_some, if_pos hm]; rfl) h
  · rw [if_neg hm]
    exact Ev.congr (f := fun _ => some _) (fun k => by rw [Option.bind_some, if_neg hm]) (Ev.now _)
end Go.Proofs.Ytmlnoapfhimgoaa.Lem
