/- Of two numbers the texts and the calls that fail tell which is less. Plain. -/
import Derived.Test.YtmlnoapfhimgoaaGNth
import Derived.Test.YtmlnoapfhimgoaaCntL
import Derived.Test.YtmlnoapfhimgoaaHasL
import Derived.Lib.Bytes
namespace Go.Proofs.Ytmlnoapfhimgoaa.Pure
set_option linter.unusedVariables false
set_option linter.unusedSimpArgs false
open Go.RowKit Go.Proofs.Ytmlnoapfhimgoaa.G Go.Proofs.Ytmlnoapfhimgoaa.Tree Go.Proofs.Ytmlnoapfhimgoaa.Cls Go.Proofs.Ytmlnoapfhimgoaa.P Go.Proofs.YtmlnoapfhimgoaaW.PrintWords Go.Proofs.YtmlnoapfhimgoaaW.PrintLast Go.Proofs.YtmlnoapfhimgoaaW.PrintMore
theorem u8_val {a : Int} (h : 0 ≤ a ∧ a < 256) : (UInt8.ofNat a.toNat).toNat = a.toNat := by
  rw [UInt8.toNat_ofNat']
  omega
theorem u8_lt {a b : Int} (ha : 0 ≤ a ∧ a < 256) (hb : 0 ≤ b ∧ b < 256) : decide (UInt8.ofNat a.toNat < UInt8.ofNat b.toNat) = decide (a < b) := by
  rw [decide_eq_decide, UInt8.lt_iff_toNat_lt, u8_val ha, u8_val hb]
  omega
theorem u8_eq {a b : Int} (ha : 0 ≤ a ∧ a < 256) (hb : 0 ≤ b ∧ b < 256) : (UInt8.ofNat a.toNat == UInt8.ofNat b.toNat) = decide (a = b) := by
  by_cases h : a = b
  · rw [h, decide_eq_true rfl, beq_self_eq_true]
  · rw [decide_eq_false h]
    apply beq_eq_false_iff_ne.2
    intro he
    have := congrArg UInt8.toNat he
    rw [u8_val ha, u8_val hb] at this
    omega
def lexB : List Int → List Int → Bool
  | _, [] => false
  | [], _ :: _ => true
  | a :: x, b :: y => decide (a < b) || (decide (a = b) && lexB x y)
theorem less_lex : ∀ (x y : List Int), (∀ a ∈ x, 0 ≤ a ∧ a < 256) → (∀ a ∈ y, 0 ≤ a ∧ a < 256) → Op.bytesLess (Lib.bytesOf x) (Lib.bytesOf y) = lexB x y
  | [], [], _, _ => rfl
  | [], b :: y, _, _ => rfl
  | a :: x, [], _, _ => rfl
  | a :: x, b :: y, hx, hy => by
    have h1 := less_lex x y (fun z h => hx z (List.mem_cons_of_mem _ h)) (fun z h => hy z (List.mem_cons_of_mem _ h))
    show (decide (UInt8.ofNat a.toNat < UInt8.ofNat b.toNat) || ((UInt8.ofNat a.toNat == UInt8.ofNat b.toNat) && Op.bytesLess (Lib.bytesOf x) (Lib.bytesOf y))) = _
    rw [u8_lt (hx a (List.mem_cons_self ..)) (hy b (List.mem_cons_self ..)), u8_eq (hx a (List.mem_cons_self ..)) (hy b (List.mem_cons_self ..)), h1]
    rfl
def less3 (x y : List Int) : Bool := decide ((x.length : Int) < (y.length : Int)) || (decide ((x.length : Int) = (y.length : Int)) && Op.bytesLess (strOfNums x).toList (strOfNums y).toList)
theorem textC_bytes {d : Int} (hd : 0 ≤ d ∧ d < 16843009) : ∀ a ∈ textC d, 0 ≤ a ∧ a < 256 := by
  intro a ha
  unfold textC at ha
  split at ha
  · cases ha
  · split at ha
    · simp at ha; omega
    · split at ha
      · simp at ha; omega
      · simp at ha; omega
theorem textC_less {d e : Int} (hd : 0 ≤ d ∧ d < 16843009) (he : 0 ≤ e ∧ e < 16843009) : less3 (textC d) (textC e) = decide (d < e) := by
  unfold less3
  rw [Lib.strOfNums_toList, Lib.strOfNums_toList, less_lex _ _ (textC_bytes hd) (textC_bytes he)]
  rw [Bool.eq_iff_iff]
  unfold textC
  by_cases d1 : d < 1
  · by_cases e1 : e < 1
    · rw [if_pos d1, if_pos e1]; simp [lexB]; omega
    · by_cases e2 : e < 257
      · rw [if_pos d1, if_neg e1, if_pos e2]; simp [lexB]; omega
      · by_cases e3 : e < 65793
        · rw [if_pos d1, if_neg e1, if_neg e2, if_pos e3]; simp [lexB]; omega
        · rw [if_pos d1, if_neg e1, if_neg e2, if_neg e3]; simp [lexB]; omega
  · by_cases d2 : d < 257
    · by_cases e1 : e < 1
      · rw [if_neg d1, if_pos d2, if_pos e1]; simp [lexB]; omega
      · by_cases e2 : e < 257
        · rw [if_neg d1, if_pos d2, if_neg e1, if_pos e2]; simp [lexB]; omega
        · by_cases e3 : e < 65793
          · rw [if_neg d1, if_pos d2, if_neg e1, if_neg e2, if_pos e3]; simp [lexB]; omega
          · rw [if_neg d1, if_pos d2, if_neg e1, if_neg e2, if_neg e3]; simp [lexB]; omega
    · by_cases d3 : d < 65793
      · by_cases e1 : e < 1
        · rw [if_neg d1, if_neg d2, if_pos d3, if_pos e1]; simp [lexB]; omega
        · by_cases e2 : e < 257
          · rw [if_neg d1, if_neg d2, if_pos d3, if_neg e1, if_pos e2]; simp [lexB]; omega
          · by_cases e3 : e < 65793
            · rw [if_neg d1, if_neg d2, if_pos d3, if_neg e1, if_neg e2, if_pos e3]; simp [lexB]; omega
            · rw [if_neg d1, if_neg d2, if_pos d3, if_neg e1, if_neg e2, if_neg e3]; simp [lexB]; omega
      · by_cases e1 : e < 1
        · rw [if_neg d1, if_neg d2, if_neg d3, if_pos e1]; simp [lexB]; omega
        · by_cases e2 : e < 257
          · rw [if_neg d1, if_neg d2, if_neg d3, if_neg e1, if_pos e2]; simp [lexB]; omega
          · by_cases e3 : e < 65793
            · rw [if_neg d1, if_neg d2, if_neg d3, if_neg e1, if_neg e2, if_pos e3]; simp [lexB]; omega
            · rw [if_neg d1, if_neg d2, if_neg d3, if_neg e1, if_neg e2, if_neg e3]; simp [lexB]; omega
theorem textC_same {d e : Int} (hd : 0 ≤ d ∧ d < 16843009) (he : 0 ≤ e ∧ e < 16843009) : (strOfNums (textC d)).toList = (strOfNums (textC e)).toList ↔ d = e := by
  constructor
  · intro h
    have h1 := textC_less hd he
    have h2 := textC_less he hd
    have hl : (textC d).length = (textC e).length := by
      have := congrArg List.length h
      rw [Lib.strOfNums_toList, Lib.strOfNums_toList, Lib.bytesOf_length, Lib.bytesOf_length] at this
      exact this
    unfold less3 at h1 h2
    rw [h, hl] at h1
    rw [h, hl] at h2
    rw [h1] at h2
    rw [decide_eq_decide] at h2
    omega
  · rintro rfl; rfl
/-- The first texts that differ: is the first less? -/
def cmpT : List (List Int) → List (List Int) → Option Bool
  | x :: p, y :: q => if (strOfNums x).toList = (strOfNums y).toList then cmpT p q else some (less3 x y)
  | _, _ => none
def rowM : List Int → Int → List (List Int)
  | [], _ => []
  | c :: r, n => textC (n / prod r % textsC c) :: rowM r n
theorem rowM_snoc : ∀ (C : List Int) (c n : Int), rowM (C ++ [c]) n = rowM C (n / textsC c) ++ [textC (n % textsC c)]
  | [], c, n => by show [textC (n / prod [] % textsC c)] = _; rw [prod, Int.ediv_one]; rfl
  | x :: C, c, n => by
    have hp := textsC_pos c
    rw [List.cons_append, rowM, rowM_snoc C c n, rowM, List.cons_append, prod_append, prod, prod, Int.mul_one, Int.mul_comm, Int.ediv_ediv_of_nonneg (show 0 ≤ textsC c by omega)]
theorem setL_row : ∀ (i : Nat) (C : List Int) (L : List (List Int)) (n : Int), i ≤ C.length → L.length = C.length → setL C i L n = rowM (C.take i) n ++ L.drop i
  | 0, C, L, n, _, _ => by rw [setL, List.take_zero, rowM, List.nil_append, List.drop_zero]
  | i + 1, C, L, n, hi, hl => by
    have hlt : i < C.length := by omega
    rw [setL, setL_row i C _ _ (by omega) (by rw [List.length_set]; exact hl)]
    have hr : rd C (i : Int) = C[i] := by unfold rd; rw [List.getD_eq_getElem?_getD, Int.toNat_natCast, List.getElem?_eq_getElem hlt]; rfl
    have hd : (L.set i (textC (n % textsC C[i]))).drop i = textC (n % textsC C[i]) :: L.drop (i + 1) := by
      rw [List.drop_eq_getElem_cons (by rw [List.length_set]; omega), List.getElem_set_self, List.drop_set_of_lt (by omega)]
    rw [hr, hd, List.take_succ_eq_append_getElem hlt, rowM_snoc, List.append_assoc]
    rfl
theorem nthRow_row (C : List Int) (n : Int) : nthRow C n = rowM C n := by
  unfold nthRow
  rw [setL_row C.length C _ n (Nat.le_refl _) (by simp), List.take_length, List.drop_eq_nil_of_le (by simp), List.append_nil]
theorem cmp_row : ∀ (C : List Int) (n m : Int), 0 ≤ n → 0 ≤ m → n / prod C = m / prod C → cmpT (rowM C n) (rowM C m) = if n = m then none else some (decide (n < m))
  | [], n, m, hn, hm, h => by
    rw [prod, Int.ediv_one, Int.ediv_one] at h
    rw [if_pos h]; rfl
  | c :: r, n, m, hn, hm, h => by
    have hp := textsC_pos c
    have hr := prod_pos r
    rw [prod, Int.mul_comm, ← Int.ediv_ediv_of_nonneg (show 0 ≤ prod r by omega), ← Int.ediv_ediv_of_nonneg (show 0 ≤ prod r by omega)] at h
    rw [rowM, rowM, cmpT]
    have ih := cmp_row r n m hn hm
    obtain ⟨N, hN⟩ : ∃ N, n / prod r = N := ⟨_, rfl⟩
    obtain ⟨M, hM⟩ : ∃ M, m / prod r = M := ⟨_, rfl⟩
    rw [hN, hM] at h ⊢
    have hN0 : 0 ≤ N := by rw [← hN]; exact Int.ediv_nonneg hn (by omega)
    have hM0 : 0 ≤ M := by rw [← hM]; exact Int.ediv_nonneg hm (by omega)
    have a1 := Int.emod_nonneg N (show textsC c ≠ 0 by omega)
    have a2 := Int.emod_lt_of_pos N (show 0 < textsC c by omega)
    have b1 := Int.emod_nonneg M (show textsC c ≠ 0 by omega)
    have b2 := Int.emod_lt_of_pos M (show 0 < textsC c by omega)
    have c1 := Int.mul_ediv_add_emod N (textsC c)
    have c2 := Int.mul_ediv_add_emod M (textsC c)
    rw [h] at c1
    by_cases hd : N % textsC c = M % textsC c
    · rw [hd, if_pos rfl]
      exact ih (by rw [hN, hM]; omega)
    · rw [if_neg (fun he => hd ((textC_same (by omega) (by omega)).1 he)), textC_less (by omega) (by omega)]
      have hne : n ≠ m := by
        rintro rfl
        rw [hN] at hM
        rw [hM] at hd
        exact hd rfl
      rw [if_neg hne]
      congr 1
      rw [decide_eq_decide]
      have hlt : N < M ↔ n < m := by
        constructor
        · intro hh
          apply Decidable.byContradiction
          intro hn2
          have := Int.ediv_le_ediv (show 0 < prod r by omega) (show m ≤ n by omega)
          omega
        · intro hh
          have := Int.ediv_le_ediv (show 0 < prod r by omega) (show n ≤ m by omega)
          have hNM : N ≠ M := by rintro rfl; exact hd rfl
          omega
      omega
/-- The first calls that differ: does the second fail? -/
def cmpF : List Bool → List Bool → Option Bool
  | x :: p, y :: q => if (x != y) = true then some y else cmpF p q
  | _, _ => none
def valF : List Bool → Nat
  | [] => 0
  | x :: r => (if x = true then 2 ^ r.length else 0) + valF r
theorem valF_lt : ∀ f, valF f < 2 ^ f.length
  | [] => by decide
  | x :: r => by
    have h := valF_lt r
    rw [valF, List.length_cons, Nat.pow_succ]
    split <;> omega
theorem cmpF_val : ∀ (f g : List Bool), f.length = g.length → cmpF f g = if valF f = valF g then none else some (decide (valF f < valF g))
  | [], [], _ => rfl
  | x :: f, y :: g, h => by
    have hl : f.length = g.length := by simpa using h
    have h1 := valF_lt f
    have h2 := valF_lt g
    rw [cmpF, valF, valF, cmpF_val f g hl]
    rw [hl] at h1 ⊢
    cases x <;> cases y
    · simp
    · show some true = if 0 + valF f = 2 ^ g.length + valF g then none else some (decide (0 + valF f < 2 ^ g.length + valF g))
      rw [if_neg (by omega), decide_eq_true (by omega)]
    · show some false = if 2 ^ g.length + valF f = 0 + valF g then none else some (decide (2 ^ g.length + valF f < 0 + valF g))
      rw [if_neg (by omega), decide_eq_false (by omega)]
    · simp
def ckM : Bool := (List.range 7).all fun a => (List.range (a + 1)).all fun b => (List.range ((waysC a b).toNat - 1)).all fun x => decide (valF (failsC (x : Int) a b) < valF (failsC ((x + 1 : Nat) : Int) a b))
theorem ckM_ok : ckM = true := by kernel_rfl
theorem fails_up {a b : Int} (ha : 0 ≤ a ∧ a ≤ 6) (hb : 0 ≤ b ∧ b ≤ a) : ∀ (d x : Nat), ((x + d + 1 : Nat) : Int) < waysC a b → valF (failsC (x : Int) a b) < valF (failsC ((x + d + 1 : Nat) : Int) a b)
  | 0, x, hx => by
    have h := List.all_eq_true.1 (List.all_eq_true.1 ckM_ok a.toNat (List.mem_range.2 (by omega))) b.toNat (List.mem_range.2 (by omega))
    rw [show ((a.toNat : Nat) : Int) = a by omega, show ((b.toNat : Nat) : Int) = b by omega] at h
    exact of_decide_eq_true (List.all_eq_true.1 h x (List.mem_range.2 (by omega)))
  | d + 1, x, hx => by
    have h1 := fails_up ha hb d x (by omega)
    have h2 := fails_up ha hb 0 (x + d + 1) (by omega)
    have e : x + (d + 1) + 1 = x + d + 1 + 0 + 1 := by omega
    rw [e]
    exact Nat.lt_trans h1 h2
theorem cmp_fails {a b x y : Int} (ha : 0 ≤ a ∧ a ≤ 6) (hb : 0 ≤ b ∧ b ≤ a) (hx : 0 ≤ x ∧ x < waysC a b) (hy : 0 ≤ y ∧ y < waysC a b) : cmpF (failsC x a b) (failsC y a b) = if x = y then none else some (decide (x < y)) := by
  have l1 := ((rows_is ha hb).2.2 _ hx).2
  have l2 := ((rows_is ha hb).2.2 _ hy).2
  rw [cmpF_val _ _ (by omega)]
  have up : ∀ p q : Int, 0 ≤ p → p < q → q < waysC a b → valF (failsC p a b) < valF (failsC q a b) := fun p q h1 h2 h3 => by
    have := fails_up ha hb (q - p - 1).toNat p.toNat (by omega)
    rw [show ((p.toNat : Nat) : Int) = p by omega, show ((p.toNat + (q - p - 1).toNat + 1 : Nat) : Int) = q by omega] at this
    exact this
  rcases Int.lt_trichotomy x y with h | rfl | h
  · have := up x y hx.1 h hy.2
    rw [if_neg (by omega), if_neg (by omega), decide_eq_true this, decide_eq_true h]
  · rw [if_pos rfl, if_pos rfl]
  · have := up y x hy.1 h hx.2
    rw [if_neg (by omega), if_neg (by omega), decide_eq_false (by omega), decide_eq_false (by omega)]
theorem cmpT_append : ∀ (F F' A A' : List (List Int)), F.length = F'.length → cmpT (F ++ A) (F' ++ A') = match cmpT F F' with | some v => some v | none => cmpT A A'
  | [], [], A, A', _ => rfl
  | x :: F, y :: F', A, A', h => by
    rw [List.cons_append, List.cons_append, cmpT, cmpT, cmpT_append F F' A A' (by simpa using h)]
    split <;> rfl
end Go.Proofs.Ytmlnoapfhimgoaa.Pure
