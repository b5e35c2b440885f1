/- What the reference's inner functions of class come to. Plain. -/
import Derived.Test.YtmlnoapfhimgoaaGNth
import Derived.Test.YtmlnoapfhimgoaaPx6
namespace Go.Proofs.Ytmlnoapfhimgoaa.G
set_option linter.unusedVariables false
set_option linter.unusedSimpArgs false
open Go.RowKit Go.Maps Go.Proofs.Ytmlnoapfhimgoaa.Lem Go.Proofs.Ytmlnoapfhimgoaa.Tree Go.Proofs.Ytmlnoapfhimgoaa.Cls Go.Proofs.YtmlnoapfhimgoaaW.PrintWords Go.Proofs.YtmlnoapfhimgoaaW.PrintLast Go.Proofs.YtmlnoapfhimgoaaW.PrintMore
open Go.Proofs.Ytmlnoapfhimgoaa.P (S38 k38 rd_T38 at_T38)
theorem rtexts_PQ : ∀ (k : Nat) (x y z i : Int), P.crossroadsref17_texts.l0 k x y z i = Q.crossroadsref17_texts.l0 k x y z i
  | 0, _, _, _, _ => by rw [P.crossroadsref17_texts.l0, Q.crossroadsref17_texts.l0]
  | k + 1, x, y, z, i => by
    have ih := rtexts_PQ k
    rw [P.crossroadsref17_texts.l0, Q.crossroadsref17_texts.l0]
    simp only [ih]
theorem rcaps_PQ : ∀ (k : Nat) (x : List Int) (i : Int) (t : List S38) (l : List Int) (a b c : Int), P.crossroadsref17_Caps.l0 k x i t l a b c = Q.crossroadsref17_Caps.l0 k x i t l a b c
  | 0, _, _, _, _, _, _, _ => by rw [P.crossroadsref17_Caps.l0, Q.crossroadsref17_Caps.l0]
  | k + 1, x, i, t, l, a, b, c => by
    have ih := rcaps_PQ k
    rw [P.crossroadsref17_Caps.l0, Q.crossroadsref17_Caps.l0]
    simp only [ih]
theorem prcaps_is (t : List S38) (l : List Int) (a b c : Int) (hz : t.length ≤ 4398046511104) (hl : t.length + l.length < 17592186044416) : Ev (fun k => P.crossroadsref17_Caps.f k t l a b c) (capsC t l) := Ev.congr (fun k => rcaps_PQ k _ _ _ _ _ _ _) (caps_is t l a b c hz hl)
def ckRP : Bool := (List.range 7).all fun a => (List.range (a + 1)).all fun b => decide (P.crossroadsref17_rows.f 80 (a : Int) b = some (rowsC a b))
theorem ckRP_ok : ckRP = true := by kernel_rfl
theorem prows_is {a b : Int} (ha : 0 ≤ a ∧ a ≤ 6) (hb : 0 ≤ b ∧ b ≤ a) : P.crossroadsref17_rows.f 80 a b = some (rowsC a b) := by
  have h := List.all_eq_true.1 (List.all_eq_true.1 ckRP_ok a.toNat (List.mem_range.2 (by omega))) b.toNat (List.mem_range.2 (by omega))
  rw [show ((a.toNat : Nat) : Int) = a by omega, show ((b.toNat : Nat) : Int) = b by omega] at h
  exact of_decide_eq_true h
/-- The reference's count is the program's. -/
def cntR : Int → List Int → Int
  | n, [] => n
  | n, c :: r => cntR (mn (n * textsC c) 1099511627776) r
theorem cntR_top : ∀ C : List Int, cntR 1099511627776 C = 1099511627776
  | [] => rfl
  | c :: r => by
    have hp := textsC_pos c
    rw [cntR, show mn (1099511627776 * textsC c) 1099511627776 = 1099511627776 by unfold mn; split <;> omega]
    exact cntR_top r
theorem cnt_same : ∀ (C : List Int) (n : Int), 0 ≤ n → n ≤ 1099511627776 → cntR n C = cntC n C
  | [], _, _, _ => rfl
  | c :: r, n, h0, h1 => by
    have hp := textsC_pos c
    rw [cntR, cntC]
    by_cases hgt : n > 1099511627776 / textsC c
    · rw [if_pos hgt]
      have h2 : 1099511627776 < n * textsC c := by
        have h3 := Int.lt_mul_of_ediv_lt (show 0 < textsC c by omega) hgt
        exact h3
      rw [show mn (n * textsC c) 1099511627776 = 1099511627776 by unfold mn; split <;> omega]
      exact cntR_top r
    · rw [if_neg hgt]
      have hle : n * textsC c ≤ 1099511627776 := by
        have h1 : n ≤ 1099511627776 / textsC c := by omega
        have h2 := Int.mul_le_mul_of_nonneg_right h1 (show 0 ≤ textsC c by omega)
        have h3 := Int.ediv_mul_le (1099511627776 : Int) (show textsC c ≠ 0 by omega)
        omega
      rw [show mn (n * textsC c) 1099511627776 = n * textsC c by unfold mn; split <;> omega]
      exact cnt_same r _ (Int.mul_nonneg h0 (by omega)) hle
/-- What the reference's count may be on its way: never between 5e11 and 2^40, where a product could wrap below nought. -/
def Inv (n : Int) : Prop := n = 1099511627776 ∨ (1 ≤ n ∧ n ≤ 64) ∨ (256 ≤ n ∧ n ≤ 16448) ∨ (65536 ≤ n ∧ n ≤ 4227136) ∨ (16777216 ≤ n ∧ n ≤ 1086373952) ∨ (4294967296 ≤ n ∧ n ≤ 279198105664)
theorem inv_step {n c : Int} (h : Inv n) (hc : 0 ≤ c ∧ c ≤ 3) : mn (wrap64 (n * textsC c)) 1099511627776 = mn (n * textsC c) 1099511627776 ∧ Inv (mn (n * textsC c) 1099511627776) := by
  have h3 : c = 0 ∨ c = 1 ∨ c = 2 ∨ c = 3 := by omega
  have e0 : textsC 0 = 1 := rfl
  have e1 : textsC 1 = 257 := rfl
  have e2 : textsC 2 = 65793 := rfl
  have e3 : textsC 3 = 16843009 := rfl
  unfold Inv at h
  rcases h with rfl | h
  · rcases h3 with rfl | rfl | rfl | rfl
    · exact ⟨by kernel_rfl, .inl (by kernel_rfl)⟩
    · exact ⟨by kernel_rfl, .inl (by kernel_rfl)⟩
    · exact ⟨by kernel_rfl, .inl (by kernel_rfl)⟩
    · exact ⟨by kernel_rfl, .inl (by kernel_rfl)⟩
  · rcases h3 with rfl | rfl | rfl | rfl <;> simp only [e0, e1, e2, e3]
    all_goals
      rcases h with h | h | h | h | h
      all_goals
        rw [w64 (by omega)]
        refine ⟨rfl, ?_⟩
        unfold mn Inv
        split <;> omega
theorem rcnt_l0 (C : List Int) (hC : ∀ x ∈ C, 0 ≤ x ∧ x ≤ 3) (hl : C.length ≤ 100) : ∀ (d : List Int) (n : Int) (i : Nat), C.drop i = d → i + d.length = C.length → Inv n → Ev (fun k => P.crossroadsref17_Count.l0 k n C (i : Int)) (cntR n d)
  | [], n, i, h, hi, hn => by
    refine Ev.step (f := fun _ => some n) (fun k => ?_) (Ev.now _)
    rw [P.crossroadsref17_Count.l0, if_neg (by simp at hi; omega)]
  | x :: d, n, i, h, hi, hn => by
    have hlt : i < C.length := by simp at hi; omega
    have hd : C.drop (i + 1) = d := by rw [List.drop_eq_getElem_cons hlt] at h; injection h
    have hx : rd C (i : Int) = x := by
      rw [List.drop_eq_getElem_cons hlt] at h
      injection h with h _
      unfold rd
      rw [List.getD_eq_getElem?_getD, Int.toNat_natCast, List.getElem?_eq_getElem hlt]
      exact h
    have hxm : x ∈ C := by
      rw [← hx]; unfold rd
      rw [List.getD_eq_getElem?_getD, Int.toNat_natCast, List.getElem?_eq_getElem hlt]
      exact List.getElem_mem _
    have hw : wrap64 ((i : Int) + 1) = ((i + 1 : Nat) : Int) := by unfold wrap64; omega
    have ht : P.crossroadsref17_texts.f 9 x = some (textsC x) := (rtexts_PQ _ _ _ _ _).trans (texts_is (hC x hxm)).2
    have hp := textsC_pos x
    have hT : Ev (fun k => P.crossroadsref17_texts.f k x) (textsC x) := Ev.of (fun k => P.crossroadsref17_texts.mono x k) ht
    obtain ⟨hm1, hm⟩ := inv_step hn (hC x hxm)
    have ih := rcnt_l0 C hC hl d (mn (n * textsC x) 1099511627776) (i + 1) hd (by simp at hi; omega) hm
    rw [cntR]
    refine Ev.step (f := fun k => (P.crossroadsref17_texts.f k x).bind fun t => P.crossroadsref17_Count.l0 k (mn (wrap64 (n * t)) 1099511627776) C ((i + 1 : Nat) : Int)) (fun k => ?_) (Ev.bind hT (by rw [hm1]; exact ih))
    rw [P.crossroadsref17_Count.l0, if_pos (by omega), if_pos (by omega), hx, hw]
theorem rcount_is (t : List S38) (l : List Int) (a b c : Int) (hz : sizesB t = true) (hl : l.length ≤ 17592186043904) : Ev (fun k => P.crossroadsref17_Count.f k t l a b c) (countC t l a b c) := by
  unfold countC
  cases hm : mayC t l a b c
  · refine Ev.congr (f := fun _ => some 0) (fun k => ?_) (by rw [if_neg (by decide)]; exact Ev.now _)
    unfold P.crossroadsref17_Count.f
    rw [rmayf hz hl, Option.bind_some, hm]; rfl
  · rw [if_pos rfl]
    obtain ⟨h1, h2, h3, h4, h5, h6, h7, _⟩ := may_bounds hm
    have hw := ways_is (b := b) h4 (by omega)
    have hcl := @caps_len t l
    have hr := rows_is h4 h5
    have hc := rcnt_l0 _ h7 (by omega) _ (waysC a b) 0 rfl (by simp) (.inr (.inl ⟨hw.2.2.2 h5.1, hw.2.2.1⟩))
    rw [cnt_same _ _ (by omega) (by omega), ← hr.2.1] at hc
    rw [← hr.2.1]
    refine Ev.congr (f := fun k => (P.crossroadsref17_rows.f k a b).bind fun t123 => ((P.crossroadsref17_Caps.f k t l a b c).bind fun t124 => (P.crossroadsref17_Count.l0 k (t123.length : Int) t124 0))) (fun k => ?_) ?_
    · unfold P.crossroadsref17_Count.f
      rw [rmayf hz hl, Option.bind_some, hm, if_pos rfl]
    · exact Ev.bind (Ev.of (fun k => P.crossroadsref17_rows.mono a b k) (prows_is h4 h5)) (Ev.bind (prcaps_is t l a b c (by omega) (by omega)) hc)
end Go.Proofs.Ytmlnoapfhimgoaa.G
