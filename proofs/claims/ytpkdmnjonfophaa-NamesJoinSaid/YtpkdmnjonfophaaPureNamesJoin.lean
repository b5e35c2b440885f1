/- NamesJoin, the plain part: two names of no depth are one of two, where there is room; three are none; nor is one with a slash at an end. -/
import Derived.Test.YtpkdmnjonfophaaPureNamesSplit
import Derived.Test.YtpkdmnjonfophaaPx4
namespace Go.Proofs.Ytpkdmnjonfophaa.Pure
set_option linter.unusedVariables false
set_option linter.unusedSimpArgs false
open Go.RowKit Go.Proofs.Ytpkdmnjonfophaa.G Go.Proofs.Ytpkdmnjonfophaa.P Go.Proofs.Ytpkdmnjonfophaa.Lem Go.Proofs.YtpkdmnjonfophaaW.PrintWords Go.Proofs.YtpkdmnjonfophaaW.PrintLast Go.Proofs.YtpkdmnjonfophaaW.PrintMore
theorem idx_cut : ∀ (x y : List UInt8), 47 ∉ x → Lib.indexByte (x ++ 47 :: y) 47 = (x.length : Int)
  | [], y, _ => by simp [Lib.indexByte]
  | b :: x, y, h => by
    have hb : (b == 47) = false := beq_eq_false_iff_ne.mpr (fun e => h (e ▸ List.mem_cons_self))
    rw [List.cons_append, Lib.indexByte, hb, idx_cut x y (fun e => h (List.mem_cons_of_mem _ e))]
    have : ((x.length : Int) == -1) = false := beq_eq_false_iff_ne.mpr (by omega)
    rw [this]
    simp
theorem may_cut {s : ByteArray} {x y : List UInt8} (hd : s.data.toList = x ++ 47 :: y) (hx : 47 ∉ x) : slashAt s = (x.length : Int) ∧ mayB s = (decide (1 ≤ s.size) && decide (s.size ≤ 8) && (partL x && partL y)) := by
  have hs : slashAt s = (x.length : Int) := by
    unfold slashAt
    rw [hd, idx_cut x y hx]
  refine ⟨hs, ?_⟩
  rw [may_is]
  congr 1
  unfold checkL
  rw [hd, idx_cut x y hx, if_pos (by omega)]
  have e1 : (x ++ 47 :: y).take ((x.length : Int)).toNat = x := by simp
  have e2 : (x ++ 47 :: y).drop (((x.length : Int)).toNat + 1) = y := by simp [List.drop_append]
  rw [e1, e2]
theorem deep_one {a : ByteArray} (h : deepB a = 1) : 1 ≤ a.size ∧ a.size ≤ 8 ∧ 47 ∉ a.data.toList ∧ partL a.data.toList = true := by
  unfold deepB at h
  by_cases hm : mayB a = true
  · rw [if_pos hm] at h
    by_cases h0 : 0 ≤ slashAt a
    · rw [if_pos h0] at h; cases h
    · rw [may_is] at hm
      simp only [Bool.and_eq_true, decide_eq_true_eq] at hm
      refine ⟨hm.1.1, hm.1.2, ?_, ?_⟩
      · rcases slash_at a.data.toList with ⟨_, h2⟩ | ⟨x, y, hxy, h2, h3⟩
        · exact h2
        · have hs : Lib.indexByte a.data.toList 47 = slashAt a := rfl
          rw [hs] at h3; omega
      · have := hm.2
        unfold checkL at this
        rw [if_neg (show ¬ 0 ≤ Lib.indexByte a.data.toList 47 from h0)] at this
        exact this
  · rw [if_neg hm] at h; cases h
theorem app_data (a b : ByteArray) : (a ++ b).data.toList = a.data.toList ++ b.data.toList := by rw [ByteArray.data_append, Array.toList_append]
theorem sl_data : (⟨#[47]⟩ : ByteArray).data.toList = [47] := rfl
theorem sl_size : (⟨#[47]⟩ : ByteArray).size = 1 := rfl
theorem join_no (a b c : ByteArray) (ha : deepB a = 1) (hb : deepB b = 1) (hc : deepB c = 1) : Ev (fun k => crossroadslaw12_NamesJoin.j0 k a b c false) true := by
  obtain ⟨a1, a8, an, ap⟩ := deep_one ha
  obtain ⟨b1, b8, bn, bp⟩ := deep_one hb
  obtain ⟨c1, c8, cn, cp⟩ := deep_one hc
  obtain ⟨s, hs⟩ : ∃ s, (a ++ (⟨#[47]⟩ : ByteArray)) ++ b = s := ⟨_, rfl⟩
  have sd : s.data.toList = a.data.toList ++ 47 :: b.data.toList := by rw [← hs, app_data, app_data, sl_data]; simp
  have ssz : s.size = a.size + 1 + b.size := by rw [← hs, ByteArray.size_append, ByteArray.size_append, sl_size]
  obtain ⟨sl, sm⟩ := may_cut sd an
  rw [ap, bp, decide_eq_true (show 1 ≤ s.size by omega), Bool.true_and, Bool.and_true, Bool.and_true] at sm
  have m2 : mayB ((s ++ (⟨#[47]⟩ : ByteArray)) ++ c) = false := by
    have d : ((s ++ (⟨#[47]⟩ : ByteArray)) ++ c).data.toList = a.data.toList ++ 47 :: (b.data.toList ++ 47 :: c.data.toList) := by rw [app_data, app_data, sl_data, sd]; simp
    rw [(may_cut d an).2, part_slash, Bool.and_false, Bool.and_false]
  have m3 : mayB (s ++ (⟨#[47]⟩ : ByteArray)) = false := by
    have d : (s ++ (⟨#[47]⟩ : ByteArray)).data.toList = a.data.toList ++ 47 :: (b.data.toList ++ 47 :: []) := by rw [app_data, sl_data, sd]; simp
    rw [(may_cut d an).2, part_slash, Bool.and_false, Bool.and_false]
  have m4 : mayB ((⟨#[47]⟩ : ByteArray) ++ a) = false := by
    have d : ((⟨#[47]⟩ : ByteArray) ++ a).data.toList = [] ++ 47 :: a.data.toList := by rw [app_data, sl_data]; simp
    rw [(may_cut d (by simp)).2, show partL [] = false by decide, Bool.false_and, Bool.and_false]
  have z2 : ((s ++ (⟨#[47]⟩ : ByteArray)) ++ c).size = s.size + 1 + c.size := by rw [ByteArray.size_append, ByteArray.size_append, sl_size]
  have z3 : (s ++ (⟨#[47]⟩ : ByteArray)).size = s.size + 1 := by rw [ByteArray.size_append, sl_size]
  have z4 : ((⟨#[47]⟩ : ByteArray) ++ a).size = 1 + a.size := by rw [ByteArray.size_append, sl_size]
  have z1 : (a ++ (⟨#[47]⟩ : ByteArray)).size = a.size + 1 := by rw [ByteArray.size_append, sl_size]
  have v1 := nmay_is s (by omega)
  have v2 := nmay_is ((s ++ (⟨#[47]⟩ : ByteArray)) ++ c) (by omega)
  have v3 := nmay_is (s ++ (⟨#[47]⟩ : ByteArray)) (by omega)
  have v4 := nmay_is ((⟨#[47]⟩ : ByteArray) ++ a) (by omega)
  rw [m2] at v2
  rw [m3] at v3
  rw [m4] at v4
  rw [sm] at v1
  have last : Ev (fun k => (names_May.f k ((s ++ (⟨#[47]⟩ : ByteArray)) ++ c)).bind fun t199 => (if t199 = true then (none) else ((names_May.f k (s ++ (⟨#[47]⟩ : ByteArray))).bind fun t200 => (if t200 = true then (none) else (if 1 + a.size ≤ 9223372036854775807 then ((names_May.f k ((⟨#[47]⟩ : ByteArray) ++ a)).bind fun t201 => (some (!t201))) else (none)))))) true := by
    refine Ev.bind v2 ?_
    refine Ev.congr (fun k => by rw [if_neg (by decide)]) (Ev.bind v3 ?_)
    refine Ev.congr (fun k => by rw [if_neg (by decide), if_pos (by omega)]) (Ev.bind v4 ?_)
    exact Ev.now _
  refine Ev.step (fun k => by rw [crossroadslaw12_NamesJoin.j0, if_neg (by decide), if_pos (by omega), if_pos (by omega), hs]) (Ev.bind (split_is s (by omega)) (Ev.bind v1 ?_))
  have hcond : ((decide (s.size ≤ 8)) == (decide ((s.size : Int) ≤ 8))) = true := by
    by_cases h : s.size ≤ 8
    · rw [decide_eq_true h, decide_eq_true (by omega)]; rfl
    · rw [decide_eq_false h, decide_eq_false (by omega)]; rfl
  by_cases h8 : s.size ≤ 8
  · have hm : mayB s = true := by rw [sm]; exact decide_eq_true h8
    have h0 : 0 ≤ slashAt s := by rw [sl]; omega
    have hsp : splitB s = (s.extract 0 (slashAt s).toNat, s.extract (slashAt s + 1).toNat s.size) := by unfold splitB; rw [if_pos hm, if_pos h0]
    have t1 : (splitB s).1.toList = a.toList := by
      rw [hsp, ByteArray.toList_eq, ByteArray.toList_eq, ext1 s h0, sd, sl]; simp
    have t2 : (splitB s).2.toList = b.toList := by
      rw [hsp, ByteArray.toList_eq, ByteArray.toList_eq, ext2 s h0, sd, sl]; simp [List.drop_append]
    have hdp : deepB s = 2 := by unfold deepB; rw [if_pos hm, if_pos h0]
    have vd := deep_is s (by omega)
    rw [hdp] at vd
    refine Ev.congr (fun k => by rw [if_pos hcond, if_pos (by omega), if_pos t1, if_pos t2]) (Ev.bind vd ?_)
    exact Ev.congr (fun k => by rw [if_pos rfl, if_pos (by omega), if_pos (by omega)]) last
  · exact Ev.congr (fun k => by rw [if_pos hcond, if_neg (by omega), if_pos (by omega), if_pos (by omega)]) last
theorem NamesJoin : crossroadslaw12_NamesJoin.Pure := by
  intro a b c ha hb hc
  refine Ev.rounds ?_
  unfold crossroadslaw12_NamesJoin.f
  refine Ev.bind names_awake ?_
  have yes : Ev (fun k => crossroadslaw12_NamesJoin.j0 k a b c true) true := Ev.step (fun k => by rw [crossroadslaw12_NamesJoin.j0, if_pos rfl]) (Ev.now true)
  refine Ev.congr (fun k => by rw [if_pos rfl]) (Ev.bind (deep_is a ha) ?_)
  by_cases h1 : deepB a = 1
  · refine Ev.congr (fun k => by rw [if_pos h1]) (Ev.bind (deep_is b hb) ?_)
    by_cases h2 : deepB b = 1
    · refine Ev.congr (fun k => by rw [if_pos h2]) (Ev.bind (deep_is c hc) ?_)
      by_cases h3 : deepB c = 1
      · rw [h3]; exact join_no a b c h1 h2 h3
      · rw [show (deepB c != 1) = true from bne_iff_ne.mpr h3]; exact yes
    · exact Ev.congr (fun k => by rw [if_neg h2]) yes
  · exact Ev.congr (fun k => by rw [if_neg h1]) yes
end Go.Proofs.Ytpkdmnjonfophaa.Pure
