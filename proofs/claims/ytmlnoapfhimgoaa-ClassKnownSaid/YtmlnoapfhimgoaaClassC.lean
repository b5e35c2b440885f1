/- What the inner functions of class come to, in closed words. Plain. -/
import Derived.Test.YtmlnoapfhimgoaaPx1
import Derived.Test.YtmlnoapfhimgoaaGRMay
namespace Go.Proofs.Ytmlnoapfhimgoaa.Cls
set_option linter.unusedVariables false
set_option linter.unusedSimpArgs false
open Go.RowKit Go.Proofs.Ytmlnoapfhimgoaa.G Go.Proofs.Ytmlnoapfhimgoaa.Tree Go.Proofs.YtmlnoapfhimgoaaW.PrintWords Go.Proofs.YtmlnoapfhimgoaaW.PrintLast Go.Proofs.YtmlnoapfhimgoaaW.PrintMore
open Go.Proofs.Ytmlnoapfhimgoaa.P (S38 rd_T38)
def waysC (a b : Int) : Int := (P.class_ways.f 9 a b).getD 0
def failsC (x a b : Int) : List Bool := (Q.class_failures.f 10 x a b).getD []
def rowsC (a b : Int) : List (List Bool) := (Q.crossroadsref17_rows.f 80 a b).getD []
def ckW : Bool := (List.range 7).all fun a => (List.range 8).all fun b => match P.class_ways.f 9 (a : Int) ((b : Int) - 1) with | some r => decide (0 ≤ r) && decide (r ≤ 64) && (decide (b = 0) || decide (1 ≤ r)) | none => false
def ckF : Bool := (List.range 7).all fun a => (List.range (a + 1)).all fun b => (List.range (waysC a b).toNat).all fun x => (Q.class_failures.f 10 (x : Int) a b).isSome
def ckR : Bool := (List.range 7).all fun a => (List.range (a + 1)).all fun b => match Q.crossroadsref17_rows.f 80 (a : Int) b with | some r => decide ((r.length : Int) = waysC a b) && ((List.range r.length).all fun x => decide (r.getD x [] = failsC (x : Int) a b) && decide ((r.getD x []).length = a)) | none => false
theorem ckW_ok : ckW = true := by kernel_rfl
theorem ckF_ok : ckF = true := by kernel_rfl
theorem ckR_ok : ckR = true := by kernel_rfl
theorem ways_is {a b : Int} (ha : 0 ≤ a ∧ a ≤ 6) (hb : -1 ≤ b ∧ b ≤ 6) : P.class_ways.f 9 a b = some (waysC a b) ∧ 0 ≤ waysC a b ∧ waysC a b ≤ 64 ∧ (0 ≤ b → 1 ≤ waysC a b) := by
  have h := List.all_eq_true.1 (List.all_eq_true.1 ckW_ok a.toNat (List.mem_range.2 (by omega))) (b + 1).toNat (List.mem_range.2 (by omega))
  rw [show ((a.toNat : Nat) : Int) = a by omega, show (((b + 1).toNat : Nat) : Int) - 1 = b by omega] at h
  unfold waysC
  cases hw : P.class_ways.f 9 a b with
  | none => rw [hw] at h; cases h
  | some r =>
    rw [hw] at h
    simp only [Bool.and_eq_true, Bool.or_eq_true, decide_eq_true_eq] at h
    exact ⟨rfl, h.1.1, h.1.2, fun hb0 => by rcases h.2 with h2 | h2 <;> simp <;> omega⟩
theorem fails_is {x a b : Int} (ha : 0 ≤ a ∧ a ≤ 6) (hb : 0 ≤ b ∧ b ≤ a) (hx : 0 ≤ x ∧ x < waysC a b) : Q.class_failures.f 10 x a b = some (failsC x a b) := by
  have h := List.all_eq_true.1 (List.all_eq_true.1 ckF_ok a.toNat (List.mem_range.2 (by omega))) b.toNat (List.mem_range.2 (by omega))
  rw [show ((a.toNat : Nat) : Int) = a by omega, show ((b.toNat : Nat) : Int) = b by omega] at h
  have h2 := List.all_eq_true.1 h x.toNat (List.mem_range.2 (by omega))
  rw [show ((x.toNat : Nat) : Int) = x by omega] at h2
  obtain ⟨r, hr⟩ := Option.isSome_iff_exists.1 h2
  unfold failsC
  rw [hr]; rfl
theorem rows_is {a b : Int} (ha : 0 ≤ a ∧ a ≤ 6) (hb : 0 ≤ b ∧ b ≤ a) : Q.crossroadsref17_rows.f 80 a b = some (rowsC a b) ∧ ((rowsC a b).length : Int) = waysC a b ∧ ∀ x : Int, 0 ≤ x ∧ x < waysC a b → (rowsC a b).getD x.toNat [] = failsC x a b ∧ ((failsC x a b).length : Int) = a := by
  have h := List.all_eq_true.1 (List.all_eq_true.1 ckR_ok a.toNat (List.mem_range.2 (by omega))) b.toNat (List.mem_range.2 (by omega))
  rw [show ((a.toNat : Nat) : Int) = a by omega, show ((b.toNat : Nat) : Int) = b by omega] at h
  unfold rowsC
  cases hw : Q.crossroadsref17_rows.f 80 a b with
  | none => rw [hw] at h; cases h
  | some r =>
    rw [hw] at h
    simp only [Bool.and_eq_true, decide_eq_true_eq] at h
    refine ⟨rfl, h.1, fun x hx => ?_⟩
    have h2 := List.all_eq_true.1 h.2 x.toNat (List.mem_range.2 (by simp at h ⊢; omega))
    rw [show ((x.toNat : Nat) : Int) = x by omega] at h2
    simp only [Bool.and_eq_true, decide_eq_true_eq] at h2
    simp only [Option.getD_some]
    exact ⟨h2.1, by rw [← h2.1, h2.2]; omega⟩
def textsC (c : Int) : Int := if c = 0 then 1 else if c = 1 then 257 else if c = 2 then 65793 else 16843009
theorem texts_is {c : Int} (hc : 0 ≤ c ∧ c ≤ 3) : P.class_texts.f 9 c = some (textsC c) ∧ Q.crossroadsref17_texts.f 9 c = some (textsC c) := by
  have : c = 0 ∨ c = 1 ∨ c = 2 ∨ c = 3 := by omega
  rcases this with rfl | rfl | rfl | rfl
  · exact ⟨by kernel_rfl, by kernel_rfl⟩
  · exact ⟨by kernel_rfl, by kernel_rfl⟩
  · exact ⟨by kernel_rfl, by kernel_rfl⟩
  · exact ⟨by kernel_rfl, by kernel_rfl⟩
theorem textsC_pos (c : Int) : 1 ≤ textsC c ∧ textsC c ≤ 16843009 := by unfold textsC; split <;> (try split) <;> (try split) <;> omega
def textC (n : Int) : List Int := if n < 1 then [] else if n < 257 then [(n - 1) % 256] else if n < 65793 then [((n - 257) / 256) % 256, (n - 257) % 256] else [((n - 65793) / 256 / 256) % 256, ((n - 65793) / 256) % 256, (n - 65793) % 256]
theorem w64 {x : Int} (h : -9223372036854775808 ≤ x ∧ x ≤ 9223372036854775807) : wrap64 x = x := by unfold wrap64; omega
section
open Go.Proofs.Ytmlnoapfhimgoaa.Q
theorem tl0 (k : Nat) (x : Int) (s : Int) (p : Int) (hx : 0 ≤ x ∧ x ≤ 1000000000) (hs : (s = 0 ∧ p = 1) ∨ (s = 1 ∧ p = 256) ∨ (s = 2 ∧ p = 65536) ∨ (s = 3 ∧ p = 16777216)) :
    class_text.l0 (k + 1) x s = if x ≥ p then class_text.l0 k (x - p) (s + 1) else class_text.l1 k x (List.replicate s.toNat 0) (s - 1) := by
  have hsh : 0 ≤ (IntKind.u64.wrap (wrap64 (8 * s))) ∧ shl .i64 1 (IntKind.u64.wrap (wrap64 (8 * s))) = p := by
    rcases hs with ⟨rfl, rfl⟩ | ⟨rfl, rfl⟩ | ⟨rfl, rfl⟩ | ⟨rfl, rfl⟩ <;> exact ⟨of_decide_eq_true (by kernel_rfl), by kernel_rfl⟩
  have hp : 1 ≤ p ∧ p ≤ 16777216 ∧ 0 ≤ s ∧ s ≤ 3 := by omega
  rw [class_text.l0, if_pos hsh.1, hsh.2, w64 (x := s + 1) (by omega), w64 (x := s - 1) (by omega), if_pos hp.2.2.1, if_pos (show s.toNat ≤ 281474976710656 by omega)]
  by_cases h : x ≥ p
  · rw [if_pos h, if_pos h, w64 (by omega)]
  · rw [if_neg h, if_neg h]
theorem tl1 (k : Nat) (x : Int) (L : List Int) (i : Nat) (hi : i < L.length) (hl : L.length ≤ 3) : class_text.l1 (k + 1) x L (i : Int) = class_text.l1 k (x / 256) (L.set i (x % 256)) ((i : Int) - 1) := by
  rw [class_text.l1, if_pos (by omega), if_pos (by omega), if_pos (by omega), w64 (by omega)]; rfl
theorem tl1_end (k : Nat) (x : Int) (L : List Int) : class_text.l1 (k + 1) x L (-1) = some L := by rw [class_text.l1, if_neg (by omega)]
theorem text_is {n : Int} (hn : 0 ≤ n ∧ n < 16843009) : Q.class_text.f 20 n = some (textC n) := by
  unfold class_text.f textC
  rw [tl0 _ n 0 1 (by omega) (.inl ⟨rfl, rfl⟩)]
  by_cases h0 : n < 1
  · rw [if_neg (by omega), if_pos h0]
    exact tl1_end _ _ _
  · rw [if_pos (by omega), if_neg h0, tl0 _ (n - 1) (0 + 1) 256 (by omega) (.inr (.inl ⟨rfl, rfl⟩))]
    by_cases h1 : n < 257
    · rw [if_neg (by omega), if_pos h1]
      show class_text.l1 18 (n - 1) [0] ((0 : Nat) : Int) = _
      rw [tl1 _ _ _ 0 (by simp) (by simp)]
      exact tl1_end _ _ _
    · rw [if_pos (by omega), if_neg h1, tl0 _ (n - 1 - 256) (0 + 1 + 1) 65536 (by omega) (.inr (.inr (.inl ⟨rfl, rfl⟩)))]
      have e1 : n - 1 - 256 = n - 257 := by omega
      rw [e1]
      by_cases h2 : n < 65793
      · rw [if_neg (by omega), if_pos h2]
        show class_text.l1 17 (n - 257) [0, 0] ((1 : Nat) : Int) = _
        rw [tl1 _ _ _ 1 (by simp) (by simp)]
        show class_text.l1 16 _ [0, (n - 257) % 256] ((0 : Nat) : Int) = _
        rw [tl1 _ _ _ 0 (by simp) (by simp)]
        exact tl1_end _ _ _
      · rw [if_pos (by omega), if_neg h2, tl0 _ (n - 257 - 65536) (0 + 1 + 1 + 1) 16777216 (by omega) (.inr (.inr (.inr ⟨rfl, rfl⟩)))]
        have e2 : n - 257 - 65536 = n - 65793 := by omega
        rw [e2, if_neg (by omega)]
        show class_text.l1 16 (n - 65793) [0, 0, 0] ((2 : Nat) : Int) = _
        rw [tl1 _ _ _ 2 (by simp) (by simp)]
        show class_text.l1 15 _ [0, 0, (n - 65793) % 256] ((1 : Nat) : Int) = _
        rw [tl1 _ _ _ 1 (by simp) (by simp)]
        show class_text.l1 14 _ [0, (n - 65793) / 256 % 256, (n - 65793) % 256] ((0 : Nat) : Int) = _
        rw [tl1 _ _ _ 0 (by simp) (by simp)]
        exact tl1_end _ _ _
theorem rl1 (k : Nat) (x : Int) (L : List Int) (i : Nat) (hx : 0 ≤ x ∧ x ≤ 1000000000) (hi : i < L.length) (hl : L.length ≤ 3) : crossroadsref17_text.l1 (k + 1) x L (i : Int) = crossroadsref17_text.l1 k (x / 256) (L.set i (x % 256)) ((i : Int) - 1) := by
  rw [crossroadsref17_text.l1, if_pos (by omega), if_pos (by omega), if_pos (by omega), Int.tdiv_eq_ediv_of_nonneg hx.1, w64 (by omega), w64 (by omega)]; rfl
theorem rl1_end (k : Nat) (x : Int) (L : List Int) : crossroadsref17_text.l1 (k + 1) x L (-1) = some L := by rw [crossroadsref17_text.l1, if_neg (by omega)]
theorem rl0 (k : Nat) (x s p : Int) (hx : 0 ≤ x ∧ x ≤ 1000000000) (hs : 0 ≤ s ∧ s ≤ 3) (hp : 0 ≤ p ∧ p ≤ 16777216) : crossroadsref17_text.l0 (k + 1) x s p = if x ≥ p then crossroadsref17_text.l0 k (x - p) (s + 1) (p * 256) else crossroadsref17_text.l1 k x (List.replicate s.toNat 0) (s - 1) := by
  rw [crossroadsref17_text.l0, w64 (x := s + 1) (by omega), w64 (x := s - 1) (by omega), w64 (x := p * 256) (by omega), if_pos hs.1, if_pos (show s.toNat ≤ 281474976710656 by omega)]
  by_cases h : x ≥ p
  · rw [if_pos h, if_pos h, w64 (by omega)]
  · rw [if_neg h, if_neg h]
theorem rtext_is {n : Int} (hn : 0 ≤ n ∧ n < 16843009) : Q.crossroadsref17_text.f 20 n = some (textC n) := by
  unfold crossroadsref17_text.f textC
  rw [rl0 _ n 0 1 (by omega) (by omega) (by omega)]
  by_cases h0 : n < 1
  · rw [if_neg (by omega), if_pos h0]
    exact rl1_end _ _ _
  · rw [if_pos (by omega), if_neg h0, rl0 _ (n - 1) (0 + 1) (1 * 256) (by omega) (by omega) (by omega)]
    by_cases h1 : n < 257
    · rw [if_neg (by omega), if_pos h1]
      show crossroadsref17_text.l1 18 (n - 1) [0] ((0 : Nat) : Int) = _
      rw [rl1 _ _ _ 0 (by omega) (by simp) (by simp)]
      exact rl1_end _ _ _
    · rw [if_pos (by omega), if_neg h1, rl0 _ (n - 1 - 1 * 256) (0 + 1 + 1) (1 * 256 * 256) (by omega) (by omega) (by omega)]
      have e1 : n - 1 - 1 * 256 = n - 257 := by omega
      rw [e1]
      by_cases h2 : n < 65793
      · rw [if_neg (by omega), if_pos h2]
        show crossroadsref17_text.l1 17 (n - 257) [0, 0] ((1 : Nat) : Int) = _
        rw [rl1 _ _ _ 1 (by omega) (by simp) (by simp)]
        show crossroadsref17_text.l1 16 _ [0, (n - 257) % 256] ((0 : Nat) : Int) = _
        rw [rl1 _ _ _ 0 (by omega) (by simp) (by simp)]
        exact rl1_end _ _ _
      · rw [if_pos (by omega), if_neg h2, rl0 _ (n - 257 - 1 * 256 * 256) (0 + 1 + 1 + 1) (1 * 256 * 256 * 256) (by omega) (by omega) (by omega)]
        have e2 : n - 257 - 1 * 256 * 256 = n - 65793 := by omega
        rw [e2, if_neg (by omega)]
        show crossroadsref17_text.l1 16 (n - 65793) [0, 0, 0] ((2 : Nat) : Int) = _
        rw [rl1 _ _ _ 2 (by omega) (by simp) (by simp)]
        show crossroadsref17_text.l1 15 _ [0, 0, (n - 65793) % 256] ((1 : Nat) : Int) = _
        rw [rl1 _ _ _ 1 (by omega) (by simp) (by simp)]
        show crossroadsref17_text.l1 14 _ [0, (n - 65793) / 256 % 256, (n - 65793) % 256] ((0 : Nat) : Int) = _
        rw [rl1 _ _ _ 0 (by omega) (by simp) (by simp)]
        exact rl1_end _ _ _
end
theorem files_PQ : ∀ (k : Nat) (x : List Int) (t : List S38) (n i : Int), P.class_Files.l0 k x t n i = Q.class_Files.l0 k x t n i
  | 0, _, _, _, _ => by rw [P.class_Files.l0, Q.class_Files.l0]
  | k + 1, x, t, n, i => by
    have ih := files_PQ k
    rw [P.class_Files.l0, Q.class_Files.l0]
    simp only [ih]
theorem Ev.eq {α : Type} {g : Nat → Option α} {r a : α} {k : Nat} (hg : ∀ k, LeO (g k) (g (k + 1))) (h : Ev g a) (hk : g k = some r) : r = a := by
  obtain ⟨K, hK⟩ := h
  have h1 := hK (max k K) (Nat.le_max_right _ _)
  have h2 := at_rounds hg (Nat.le_max_left k K) hk
  rw [h1] at h2
  exact (Option.some.inj h2).symm
theorem pfiles_is (t : List S38) (l : List Int) (a b c : Int) (hz : t.length ≤ 4398046511104) : Ev (fun k => P.class_Files.f k t l a b c) (filesL t) := Ev.congr (fun k => files_PQ k _ _ _ _) (files_is t l a b c hz)
theorem filesFrom_bd : ∀ (t : List S38) (i : Int), ∀ j ∈ filesFrom t i, i ≤ j ∧ j < i + t.length
  | [], i, j, h => by simp [filesFrom] at h
  | x :: r, i, j, h => by
    rw [filesFrom] at h
    split at h
    · have := filesFrom_bd r (i + 1) j h; simp; omega
    · rcases List.mem_cons.1 h with rfl | h
      · simp; omega
      · have := filesFrom_bd r (i + 1) j h; simp; omega
theorem filesFrom_caps (t : List S38) : ∀ (d : List S38) (i : Nat), t.drop i = d → (filesFrom d i).map (fun j => (rd_T38 t j).f2) = fcaps d
  | [], _, _ => rfl
  | x :: d, i, h => by
    have hlt : i < t.length := by
      apply Decidable.byContradiction
      intro hn
      rw [List.drop_eq_nil_of_le (by omega)] at h
      cases h
    have hd : t.drop (i + 1) = d := by rw [List.drop_eq_getElem_cons hlt] at h; injection h
    have hx : rd_T38 t (i : Int) = x := by
      rw [List.drop_eq_getElem_cons hlt] at h
      injection h with h _
      unfold rd_T38
      rw [List.getD_eq_getElem?_getD, Int.toNat_natCast, List.getElem?_eq_getElem hlt]
      exact h
    have ih := filesFrom_caps t d (i + 1) hd
    rw [filesFrom, fcaps]
    split
    · exact ih
    · rw [List.map_cons, hx]
      exact congrArg _ ih
theorem pcaps_l0 (t : List S38) (l F : List Int) (a b c : Int) (hF : ∀ j ∈ F, 0 ≤ j ∧ j < t.length) (hf : F.length + l.length < 17592186044416) : ∀ (d acc : List Int) (i : Nat), F.drop i = d → acc.length = i → i + d.length = F.length → Ev (fun k => P.class_Caps.l0 k acc F (F.length : Int) (i : Int) t l a b c) (acc ++ d.map (fun j => (rd_T38 t j).f2) ++ l)
  | [], acc, i, h, ha, hi => by
    refine Ev.step (f := fun _ => some (acc ++ l)) (fun k => ?_) (by rw [List.map_nil, List.append_nil]; exact Ev.now _)
    rw [P.class_Caps.l0, if_neg (by simp at hi; omega), if_pos (by simp at hi; omega)]
  | x :: d, acc, i, h, ha, hi => by
    have hlt : i < F.length := by simp at hi; omega
    have hd : F.drop (i + 1) = d := by rw [List.drop_eq_getElem_cons hlt] at h; injection h
    have hx : rd F (i : Int) = x := by
      rw [List.drop_eq_getElem_cons hlt] at h
      injection h with h _
      unfold rd
      rw [List.getD_eq_getElem?_getD, Int.toNat_natCast, List.getElem?_eq_getElem hlt]
      exact h
    have hxm : x ∈ F := by
      rw [← hx]; unfold rd
      rw [List.getD_eq_getElem?_getD, Int.toNat_natCast, List.getElem?_eq_getElem hlt]
      exact List.getElem_mem _
    have hb := hF x hxm
    have hw : wrap64 ((i : Int) + 1) = ((i + 1 : Nat) : Int) := by unfold wrap64; omega
    have := pcaps_l0 t l F a b c hF hf d (acc ++ [(rd_T38 t x).f2]) (i + 1) hd (by rw [List.length_append]; simp; omega) (by simp at hi; omega)
    rw [List.append_assoc acc] at this
    refine Ev.step (fun k => ?_) this
    rw [P.class_Caps.l0, if_pos (by omega), if_pos (by omega), if_pos (by omega), hx, if_pos hb.1, if_pos hb.2, if_pos (by omega), hw]
theorem pcaps_is (t : List S38) (l : List Int) (a b c : Int) (hz : t.length ≤ 4398046511104) (hl : t.length + l.length < 17592186044416) : Ev (fun k => P.class_Caps.f k t l a b c) (capsC t l) := by
  have h1 := filesFrom_le t 0
  have h2 := pcaps_l0 t l (filesL t) a b c (fun j hj => by have := filesFrom_bd t 0 j hj; omega) (by unfold filesL; omega) (filesL t) [] 0 rfl rfl (by simp)
  have h3 : (filesL t).map (fun j => (rd_T38 t j).f2) = fcaps t := filesFrom_caps t t 0 rfl
  rw [h3, List.nil_append] at h2
  exact Ev.bind (pfiles_is t l a b c hz) h2
/-- How many inputs. -/
def cntC : Int → List Int → Int
  | n, [] => n
  | n, c :: r => if n > 1099511627776 / textsC c then 1099511627776 else cntC (n * textsC c) r
def countC (t : List S38) (l : List Int) (a b c : Int) : Int := if mayC t l a b c = true then cntC (waysC a b) (capsC t l) else 0
theorem cnt_l0 (C : List Int) (hC : ∀ x ∈ C, 0 ≤ x ∧ x ≤ 3) (hl : C.length ≤ 100) : ∀ (d : List Int) (n : Int) (i : Nat), C.drop i = d → i + d.length = C.length → 0 ≤ n ∧ n ≤ 1099511627776 → Ev (fun k => P.class_Count.l0 k n C (C.length : Int) (i : Int)) (cntC n d)
  | [], n, i, h, hi, hn => by
    refine Ev.step (f := fun _ => some n) (fun k => ?_) (Ev.now _)
    rw [P.class_Count.l0, if_neg (by simp at hi; omega)]
  | x :: d, n, i, h, hi, hn => by
    have hlt : i < C.length := by simp at hi; omega
    have hd : C.drop (i + 1) = d := by rw [List.drop_eq_getElem_cons hlt] at h; injection h
    have hx : rd C (i : Int) = x := by
      rw [List.drop_eq_getElem_cons hlt] at h
      injection h with h _
      unfold rd
      rw [List.getD_eq_getElem?_getD, Int.toNat_natCast, List.getElem?_eq_getElem hlt]
      exact h
    have hxm : x ∈ C := by
      rw [← hx]; unfold rd
      rw [List.getD_eq_getElem?_getD, Int.toNat_natCast, List.getElem?_eq_getElem hlt]
      exact List.getElem_mem _
    have hw : wrap64 ((i : Int) + 1) = ((i + 1 : Nat) : Int) := by unfold wrap64; omega
    have ht := (texts_is (hC x hxm)).1
    have hp := textsC_pos x
    have hq : 0 ≤ (1099511627776 : Int) / textsC x ∧ (1099511627776 : Int) / textsC x ≤ 1099511627776 := ⟨Int.ediv_nonneg (by omega) (by omega), by
      have := Int.ediv_le_self (textsC x) (show (0 : Int) ≤ 1099511627776 by omega)
      exact this⟩
    have hT : Ev (fun k => P.class_texts.f k x) (textsC x) := Ev.of (fun k => P.class_texts.mono x k) ht
    rw [cntC]
    by_cases hgt : n > 1099511627776 / textsC x
    · rw [if_pos hgt]
      refine Ev.step (f := fun k => (P.class_texts.f k x).bind fun _ => some 1099511627776) (fun k => ?_) (Ev.bind hT (Ev.now _))
      rw [P.class_Count.l0, if_pos (by omega), if_pos (by omega), if_pos (by omega), hx]
      cases hk : P.class_texts.f k x with
      | none => rfl
      | some r =>
        obtain rfl : r = textsC x := Ev.eq (fun k => P.class_texts.mono x k) hT hk
        simp only [Option.bind_some]
        rw [if_neg (by omega), w64 (by omega), if_pos hgt]
    · rw [if_neg hgt]
      have hle : n * textsC x ≤ 1099511627776 := by
        have h1 : n ≤ 1099511627776 / textsC x := by omega
        have h2 := Int.mul_le_mul_of_nonneg_right h1 (show 0 ≤ textsC x by omega)
        have h3 := Int.ediv_mul_le (1099511627776 : Int) (show textsC x ≠ 0 by omega)
        omega
      have h0 : 0 ≤ n * textsC x := Int.mul_nonneg hn.1 (by omega)
      have ih := cnt_l0 C hC hl d (n * textsC x) (i + 1) hd (by simp at hi; omega) ⟨h0, hle⟩
      refine Ev.step (f := fun k => (P.class_texts.f k x).bind fun t => (P.class_texts.f k x).bind fun _ => P.class_Count.l0 k (n * textsC x) C (C.length : Int) ((i + 1 : Nat) : Int)) (fun k => ?_) (Ev.bind hT (Ev.bind hT ih))
      rw [P.class_Count.l0, if_pos (by omega), if_pos (by omega), if_pos (by omega), hx]
      cases hk : P.class_texts.f k x with
      | none => rfl
      | some r =>
        obtain rfl : r = textsC x := Ev.eq (fun k => P.class_texts.mono x k) hT hk
        simp only [Option.bind_some]
        rw [if_neg (by omega), w64 (x := 1099511627776 / textsC x) (by omega), if_neg hgt, w64 (by omega), hw]
theorem may_bounds {t : List S38} {l : List Int} {a b c : Int} (h : mayC t l a b c = true) : t.length ≤ 8 ∧ (filesL t).length ≤ 4 ∧ l.length ≤ 2 ∧ (0 ≤ a ∧ a ≤ 6) ∧ (0 ≤ b ∧ b ≤ a) ∧ (0 ≤ c ∧ c ≤ 400) ∧ (∀ x ∈ capsC t l, 0 ≤ x ∧ x ≤ 3) ∧ treeB t = true := by
  have h2 := h
  rw [← mayR_is] at h2
  unfold mayC at h
  unfold mayR at h2
  rw [tree_is] at h2
  simp only [Bool.and_eq_true, decide_eq_true_eq] at h h2
  have ht := h.1.1.1
  have ht2 := ht
  unfold treeB at ht2
  simp only [Bool.and_eq_true, decide_eq_true_eq] at ht2
  obtain ⟨_, _, _, h3, h4, h5, _, h6⟩ := h2
  unfold fitsB at h3 h4 h5
  simp only [Bool.and_eq_true, decide_eq_true_eq] at h3 h4 h5
  refine ⟨ht2.1, h.1.1.2, h.1.2, h3, h4, h5, fun x hx => ?_, ht⟩
  have := List.all_eq_true.1 h6 x hx
  unfold fitsB at this
  simpa using this
def sizesB (t : List S38) : Bool := t.all fun x => decide (x.f0.size ≤ 140737488351232)
theorem mayf {t : List S38} {l : List Int} {a b c : Int} (hz : sizesB t = true) : G.class_May.f t l a b c = some (mayC t l a b c) := if_pos hz
theorem rmayf {t : List S38} {l : List Int} {a b c : Int} (hz : sizesB t = true) (hl : l.length ≤ 17592186043904) : G.crossroadsref17_May.f t l a b c = some (mayC t l a b c) := by
  unfold G.crossroadsref17_May.f
  rw [if_pos ⟨hz, hl⟩, mayR_is]
theorem caps_len {t : List S38} {l : List Int} : (capsC t l).length = (filesL t).length + l.length := by
  unfold capsC filesL
  rw [List.length_append, fcaps_len t 0]
theorem count_is (t : List S38) (l : List Int) (a b c : Int) (hz : sizesB t = true) : Ev (fun k => P.class_Count.f k t l a b c) (countC t l a b c) := by
  unfold countC
  cases hm : mayC t l a b c
  · refine Ev.congr (f := fun _ => some 0) (fun k => ?_) (by rw [if_neg (by decide)]; exact Ev.now _)
    unfold P.class_Count.f
    rw [mayf hz, Option.bind_some, hm]; rfl
  · rw [if_pos rfl]
    obtain ⟨h1, h2, h3, h4, h5, h6, h7, _⟩ := may_bounds hm
    have hw := ways_is (b := b) h4 (by omega)
    have hl := @caps_len t l
    refine Ev.congr (f := fun k => (P.class_ways.f k a b).bind fun t123 => ((P.class_Caps.f k t l a b c).bind fun t124 => (P.class_Count.l0 k t123 t124 (t124.length : Int) 0))) (fun k => ?_) ?_
    · unfold P.class_Count.f
      rw [mayf hz, Option.bind_some, hm, if_pos rfl]
    · exact Ev.bind (Ev.of (fun k => P.class_ways.mono a b k) hw.1) (Ev.bind (pcaps_is t l a b c (by omega) (by omega)) (cnt_l0 _ h7 (by omega) _ _ 0 rfl (by simp) ⟨by omega, by omega⟩))
end Go.Proofs.Ytmlnoapfhimgoaa.Cls
