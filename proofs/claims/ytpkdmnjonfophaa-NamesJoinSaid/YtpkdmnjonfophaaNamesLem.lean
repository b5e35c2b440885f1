/- Names, in plain words: what the program's check says and what the reference says are one. -/
import Derived.Test.YtpkdmnjonfophaaPx2
namespace Go.Proofs.Ytpkdmnjonfophaa.Lem
set_option linter.unusedVariables false
open Go.RowKit Go.Proofs.Ytpkdmnjonfophaa.G Go.Proofs.Ytpkdmnjonfophaa.P Go.Proofs.YtpkdmnjonfophaaW.PrintWords Go.Proofs.YtpkdmnjonfophaaW.PrintLast Go.Proofs.YtpkdmnjonfophaaW.PrintMore
def letU (b : UInt8) : Bool := letterB (b.toNat : Int)
def goodL (p : List UInt8) : Bool := !(p == []) && !(p == [46]) && !(p == [46, 46])
def partL (p : List UInt8) : Bool := p.all letU && goodL p
/-- The reference's parts, on lists. -/
def sc : List UInt8 → List (List UInt8) → List UInt8 → Option (List (List UInt8))
  | [], done, cur => some (done ++ [cur])
  | b :: l, done, cur => if b = 47 then sc l (done ++ [cur]) [] else if letU b = true then sc l done (cur ++ [b]) else none
def fin : Option (List (List UInt8)) → Bool
  | none => false
  | some ps => ps.all goodL && decide (ps.length ≤ 2)
theorem sc_plain : ∀ (l : List UInt8) (done : List (List UInt8)) (cur : List UInt8), 47 ∉ l → sc l done cur = if l.all letU = true then some (done ++ [cur ++ l]) else none
  | [], done, cur, _ => by simp [sc]
  | b :: l, done, cur, h => by
    have hb : b ≠ 47 := fun e => h (e ▸ List.mem_cons_self)
    rw [sc, if_neg hb]
    by_cases hl : letU b = true
    · rw [if_pos hl, sc_plain l done (cur ++ [b]) (fun e => h (List.mem_cons_of_mem _ e))]
      simp [hl]
    · rw [if_neg hl, if_neg (by simp [hl])]
theorem sc_cut : ∀ (x y : List UInt8) (done : List (List UInt8)) (cur : List UInt8), 47 ∉ x → sc (x ++ 47 :: y) done cur = if x.all letU = true then sc y (done ++ [cur ++ x]) [] else none
  | [], y, done, cur, _ => by simp [sc]
  | b :: x, y, done, cur, h => by
    have hb : b ≠ 47 := fun e => h (e ▸ List.mem_cons_self)
    rw [List.cons_append, sc, if_neg hb]
    by_cases hl : letU b = true
    · rw [if_pos hl, sc_cut x y done (cur ++ [b]) (fun e => h (List.mem_cons_of_mem _ e))]
      simp [hl]
    · rw [if_neg hl, if_neg (by simp [hl])]
theorem sc_long : ∀ (l : List UInt8) (done : List (List UInt8)) (cur : List UInt8) (ps : List (List UInt8)), sc l done cur = some ps → done.length + 1 ≤ ps.length
  | [], done, cur, ps, h => by
    rw [sc] at h
    injection h with h
    subst h
    simp
  | b :: l, done, cur, ps, h => by
    rw [sc] at h
    split at h
    · have := sc_long l _ _ ps h
      simp at this
      omega
    · split at h
      · exact sc_long l _ _ ps h
      · cases h
theorem slash_at (l : List UInt8) : (Lib.indexByte l 47 = -1 ∧ 47 ∉ l) ∨ ∃ x y, l = x ++ 47 :: y ∧ 47 ∉ x ∧ Lib.indexByte l 47 = (x.length : Int) := by
  induction l with
  | nil => exact .inl ⟨rfl, by simp⟩
  | cons b l ih =>
    by_cases hb : b = 47
    · subst hb
      exact .inr ⟨[], l, rfl, by simp, by simp [Lib.indexByte]⟩
    · have hbb : (b == 47) = false := beq_eq_false_iff_ne.mpr hb
      rcases ih with ⟨h1, h2⟩ | ⟨x, y, rfl, h2, h3⟩
      · refine .inl ⟨?_, ?_⟩
        · rw [Lib.indexByte, hbb, h1]; rfl
        · intro h
          rcases List.mem_cons.1 h with h | h
          · exact hb h.symm
          · exact h2 h
      · refine .inr ⟨b :: x, y, rfl, ?_, ?_⟩
        · intro h
          rcases List.mem_cons.1 h with h | h
          · exact hb h.symm
          · exact h2 h
        · rw [Lib.indexByte, hbb, h3]
          have : ((x.length : Int) == -1) = false := beq_eq_false_iff_ne.mpr (by omega)
          rw [this]
          simp
/-- What the program's check says of a text, on lists. -/
def checkL (l : List UInt8) : Bool := if 0 ≤ Lib.indexByte l 47 then partL (l.take (Lib.indexByte l 47).toNat) && partL (l.drop ((Lib.indexByte l 47).toNat + 1)) else partL l
theorem part_slash (y1 y2 : List UInt8) : partL (y1 ++ 47 :: y2) = false := by
  unfold partL
  have : (y1 ++ 47 :: y2).all letU = false := by
    rw [List.all_eq_false]
    exact ⟨47, by simp, by decide⟩
  rw [this, Bool.false_and]
theorem fin_check (l : List UInt8) : fin (sc l [] []) = checkL l := by
  unfold checkL
  rcases slash_at l with ⟨h1, h2⟩ | ⟨x, y, rfl, h2, h3⟩
  · rw [if_neg (by omega), sc_plain l [] [] h2]
    unfold partL
    cases h : l.all letU <;> simp [fin]
  · rw [h3, if_pos (by omega), sc_cut x y [] [] h2]
    have e1 : (x ++ 47 :: y).take ((x.length : Int)).toNat = x := by simp
    have e2 : (x ++ 47 :: y).drop (((x.length : Int)).toNat + 1) = y := by simp [List.drop_append]
    rw [e1, e2]
    by_cases hx : x.all letU = true
    · rw [if_pos hx]
      rcases slash_at y with ⟨h4, h5⟩ | ⟨y1, y2, rfl, h5, h6⟩
      · rw [sc_plain y _ [] h5]
        unfold partL
        rw [hx]
        cases h : y.all letU <;> simp [fin]
      · rw [part_slash, Bool.and_false, sc_cut y1 y2 _ [] h5]
        split
        · cases hs : sc y2 ([] ++ [[] ++ x] ++ [[] ++ y1]) [] with
          | none => rfl
          | some ps =>
            have := sc_long _ _ _ _ hs
            simp at this
            show (ps.all goodL && decide (ps.length ≤ 2)) = false
            rw [decide_eq_false (by omega), Bool.and_false]
        · rfl
    · rw [if_neg hx]
      unfold partL
      rw [Bool.eq_false_iff.mpr hx]
      rfl
def mk (l : List UInt8) : ByteArray := ⟨l.toArray⟩
theorem mk_data (l : List UInt8) : (mk l).data.toList = l := by simp [mk]
theorem bt_drop {a : ByteArray} {i : Nat} {b : UInt8} {l : List UInt8} (h : a.data.toList.drop i = b :: l) : i < a.size ∧ bt a (i : Int) = (b.toNat : Int) ∧ a.data.toList.drop (i + 1) = l := by
  have hlt : i < a.data.toList.length := by
    apply Decidable.byContradiction
    intro hn
    rw [List.drop_eq_nil_of_le (by omega)] at h
    cases h
  have hsz : i < a.size := hlt
  rw [List.drop_eq_getElem_cons hlt] at h
  injection h with h1 h2
  refine ⟨hsz, ?_, h2⟩
  unfold bt
  rw [dif_pos (show (i : Int).toNat < a.size by rw [Int.toNat_natCast]; exact hsz)]
  rw [← h1]
  simp [ByteArray.getElem_eq_getElem_data]
theorem str_one (b : UInt8) : strOfNums [(b.toNat : Int)] = mk [b] := by
  apply WideShapes.bytes_inj
  rw [strOfNums_data, mk_data]
  simp
theorem mk_snoc (l : List UInt8) (b : UInt8) : mk l ++ mk [b] = mk (l ++ [b]) := by
  apply WideShapes.bytes_inj
  rw [ByteArray.data_append, Array.toList_append, mk_data, mk_data, mk_data]
theorem scan_sc (a : ByteArray) : ∀ (l : List UInt8) (i : Nat) (done : List (List UInt8)) (cur : List UInt8), a.data.toList.drop i = l →
    scan a l.length (i : Int) ((done ++ [cur]).map mk) = (sc l done cur).map (List.map mk)
  | [], i, done, cur, h => by rw [sc]; rfl
  | b :: l, i, done, cur, h => by
    obtain ⟨h1, h2, h3⟩ := bt_drop h
    rw [List.length_cons, scan, sc, h2]
    by_cases hb : b = 47
    · rw [if_pos hb, if_pos (by subst hb; rfl)]
      have := scan_sc a l (i + 1) (done ++ [cur]) [] h3
      rw [List.map_append] at this
      exact this
    · rw [if_neg hb, if_neg (by intro e; have e47 : (47 : UInt8).toNat = 47 := rfl; exact hb (UInt8.toNat_inj.1 (by omega)))]
      have hl : letterB (b.toNat : Int) = letU b := rfl
      rw [hl]
      by_cases hl2 : letU b = true
      · rw [if_pos hl2, if_pos hl2]
        have := scan_sc a l (i + 1) done (cur ++ [b]) h3
        rw [← this]
        congr 1
        rw [List.map_append, List.map_append, List.length_append, List.length_map, List.length_map]
        show (done.map mk ++ [mk cur]).set (done.length + 1 - 1) ((done.map mk ++ [mk cur]).getD (done.length + 1 - 1) _ ++ strOfNums [(b.toNat : Int)]) = done.map mk ++ [mk (cur ++ [b])]
        rw [Nat.add_sub_cancel, List.set_append_right _ _ (by simp), List.getD_eq_getElem?_getD, List.getElem?_append_right (by simp), str_one]
        simp [mk_snoc]
      · rw [if_neg hl2, if_neg hl2]; rfl
theorem good_mk (p : List UInt8) : goodP (mk p) = goodL p := by
  unfold goodP goodL
  rw [ByteArray.toList_eq, mk_data]
theorem res_fin (x : Option (List (List UInt8))) : res (x.map (List.map mk)) = fin x := by
  cases x with
  | none => rfl
  | some ps =>
    show ((ps.map mk).all goodP && decide ((ps.map mk).length ≤ 2)) = (ps.all goodL && decide (ps.length ≤ 2))
    rw [List.length_map, List.all_map]
    congr 2
    funext p
    exact good_mk p
theorem may_is (a : ByteArray) : mayB a = (decide (1 ≤ a.size) && decide (a.size ≤ 8) && checkL a.data.toList) := by
  unfold mayB
  have h := scan_sc a a.data.toList 0 [] [] rfl
  have e : a.data.toList.length = a.size := rfl
  rw [e] at h
  have h' : scan a a.size 0 [(⟨#[]⟩ : ByteArray)] = (sc a.data.toList [] []).map (List.map mk) := h
  rw [h', res_fin, fin_check]
end Go.Proofs.Ytpkdmnjonfophaa.Lem
