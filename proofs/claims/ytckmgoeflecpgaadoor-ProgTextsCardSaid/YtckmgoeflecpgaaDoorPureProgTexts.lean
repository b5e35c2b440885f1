/- ProgTexts answers true: any program's lines. -/
import Derived.Test.YtckmgoeflecpgaaDoorPx4
namespace Go.Proofs.YtckmgoeflecpgaaDoor.Pure
open Go.RowKit Go.Proofs.YtckmgoeflecpgaaDoor.L Go.Proofs.YtckmgoeflecpgaaDoor.I Go.Proofs.YtckmgoeflecpgaaDoor.G Go.Proofs.YtckmgoeflecpgaaDoor.P Go.Proofs.YtckmgoeflecpgaaDoorW.PrintWords Go.Proofs.YtckmgoeflecpgaaDoorW.PrintLast Go.Proofs.YtckmgoeflecpgaaDoorW.PrintMore
set_option linter.unusedVariables false
theorem ba_inj {a b : ByteArray} (h : a.data.toList = b.data.toList) : a = b := by
  obtain ⟨a⟩ := a
  obtain ⟨b⟩ := b
  have : a = b := Array.ext' h
  rw [this]
theorem app_data (a b : ByteArray) : (a ++ b).data.toList = a.data.toList ++ b.data.toList := by
  rw [ByteArray.data_append, Array.toList_append]
theorem digit (u : Nat) : (strOfNums [(48 + (Int.tmod (u : Int) 10 % 256)) % 256]).data.toList = [UInt8.ofNat (48 + u % 10)] := by
  rw [strOfNums_data, List.map_singleton]
  congr 1
  rw [Int.tmod_eq_emod_of_nonneg (by omega)]
  congr 1
  omega
theorem dec_l0 (rest : List UInt8) : ∀ (f u : Nat) (x : ByteArray) (rest : List UInt8), u < 10 ^ f → 0 < f → f ≤ 19 → x.size + f ≤ 1000 → x.data.toList = UInt8.ofNat (48 + u % 10) :: rest → ∃ r, Ev (fun k => crossroadslaw10_decimal.l0 k (u : Int) x) r ∧ r.data.toList = Lib.decDigits u ++ rest
  | 0, u, x, rest, hu, h0, _, hs, hx => absurd h0 (by omega)
  | f + 1, u, x, rest, hu, h0, hf, hs, hx => by
    by_cases h : u < 10
    · refine ⟨x, Ev.step (f := fun _ => some x) (fun k => by rw [crossroadslaw10_decimal.l0, if_neg (by omega)]) (Ev.now _), ?_⟩
      rw [hx, Lib.decDigits, dif_pos h, show u % 10 = u by omega]
      rfl
    · have hb : (10 : Nat) ^ f ≤ 10 ^ 18 := Nat.pow_le_pow_right (by omega) (by omega)
      have hu2 : u / 10 < 10 ^ f := by rw [Nat.pow_succ] at hu; omega
      have hu3 : u < 10 ^ 19 := Nat.lt_of_lt_of_le hu (Nat.pow_le_pow_right (by omega) hf)
      have hdiv : wrap64 (Int.tdiv (u : Int) 10) = ((u / 10 : Nat) : Int) := by
        rw [Int.tdiv_eq_ediv_of_nonneg (by omega)]
        unfold wrap64
        have : (10 : Nat) ^ 18 = 1000000000000000000 := by decide
        omega
      have hf0 : 0 < f := by
        rcases Nat.eq_zero_or_pos f with h2 | h2
        · subst h2; simp at hu; omega
        · exact h2
      have hd := digit (u / 10)
      generalize hy : strOfNums [(48 + (Int.tmod ((u / 10 : Nat) : Int) 10 % 256)) % 256] = y at hd
      have hys : y.size = 1 := by rw [← hy]; rfl
      obtain ⟨r, hr, hr2⟩ := dec_l0 rest f (u / 10) (y ++ x) (UInt8.ofNat (48 + u % 10) :: rest) hu2 hf0 (by omega) (by rw [ByteArray.size_append]; omega) (by rw [app_data, hd, hx]; rfl)
      refine ⟨r, Ev.step (fun k => ?_) hr, ?_⟩
      · rw [crossroadslaw10_decimal.l0, if_pos (by omega), hdiv, Option.bind_some, hy, if_pos (by rw [hys]; omega)]
      · rw [hr2]
        conv => rhs; rw [Lib.decDigits, dif_neg h]
        rw [List.append_assoc]
        rfl
theorem dec_ev (n : Int) (h0 : 0 ≤ n) (h1 : n < 1000000000000000000) : Ev (fun k => crossroadslaw10_decimal.f k n) (itoaB n) := by
  obtain ⟨u, rfl⟩ := Int.eq_ofNat_of_zero_le h0
  have hd := digit u
  obtain ⟨r, hr, hr2⟩ := dec_l0 [] 18 u (strOfNums [(48 + (Int.tmod (u : Int) 10 % 256)) % 256]) [] (by rw [show (10 : Nat) ^ 18 = 1000000000000000000 by decide]; omega) (by omega) (by omega) (by show 1 + 18 ≤ 1000; omega) hd
  have e : r = itoaB (u : Int) := by
    refine ba_inj ?_
    rw [hr2, List.append_nil]
    unfold itoaB Lib.itoa
    rw [if_neg (by omega)]
    rfl
  rw [← e]
  exact hr
theorem texts_l0 (L : List S41) (N : List ByteArray) (hL : L.length ≤ 500) (ok : okI L) : ∀ (d : List S41) (i : Nat) (x : ByteArray), L.drop i = d → i ≤ L.length → x.data.toList = textGo 0 (L.take i) → Ev (fun k => crossroadslaw10_ProgTexts.l0 k x (i : Int) L N) true
  | [], i, x, hd, hi, hx => by
    have h1 : L.length ≤ i := List.drop_eq_nil_iff.1 hd
    refine Ev.step (f := fun _ => some true) (fun k => ?_) (Ev.now _)
    have hk : okId L = true := by
      unfold okId
      rw [Bool.and_eq_true]
      refine ⟨List.all_eq_true.2 fun y hy => ?_, decide_eq_true (by omega)⟩
      rw [decide_eq_true (ok y hy).1, decide_eq_true (ok y hy).2]; rfl
    have e : textV L = x := by
      refine ba_inj ?_
      rw [hx, List.take_of_length_le h1]
      rfl
    rw [crossroadslaw10_ProgTexts.l0, if_neg (by omega), show prog_Text.f L N = some (textV L) by unfold prog_Text.f; rw [if_pos hk], Option.bind_some, e, beq_self_eq_true]
  | y :: d, i, x, hd, hi, hx => by
    obtain ⟨hlt, hy, hd2⟩ := drop_at hd
    have hr := rd41 hd
    have hyo := ok y (hy ▸ List.getElem_mem hlt)
    have hym : L[i]? = some y := by rw [List.getElem?_eq_getElem hlt, hy]
    have hw : wrap64 ((i : Int) + 1) = ((i + 1 : Nat) : Int) := by unfold wrap64; omega
    have htk : textGo 0 (L.take (i + 1)) = textGo 0 (L.take i) ++ (oneB i y).data.toList := by
      rw [List.take_add_one, hym, show (some y).toList = [y] from rfl, textGo_snoc, List.length_take, Nat.zero_add, Nat.min_eq_left (by omega)]
    have hxs : x.size ≤ 60 * 500 := by
      have h1 := textGo_len (L.take i) 0 (by rw [List.length_take]; omega) (fun z hz => ok z (List.mem_of_mem_take hz))
      rw [← hx, List.length_take, Array.length_toList] at h1
      have : x.data.size = x.size := rfl
      omega
    have hds := itoaB_size (i : Int) (by omega) (by omega)
    have hns := nameOf_size y.f0
    have hdi := dec_ev (i : Int) (by omega) (by omega)
    have key : ∀ z : ByteArray, z.data.toList = x.data.toList ++ (oneB i y).data.toList → Ev (fun k => crossroadslaw10_ProgTexts.l0 k z ((i + 1 : Nat) : Int) L N) true := fun z hz => texts_l0 L N hL ok d (i + 1) z hd2 (by omega) (by rw [hz, hx, htk])
    have s32 : (⟨#[32]⟩ : ByteArray).size = 1 := rfl
    have s10 : (⟨#[10]⟩ : ByteArray).size = 1 := rfl
    cases hm : mayI y.f0 y.f1
    · have hone : (oneB i y).data.toList = (itoaB (i : Int)).data.toList ++ [32, 63, 10] := by
        unfold oneB lineV
        rw [hm, if_neg (by decide), app_data, app_data, app_data]
        simp
      have hj : Ev (fun k => crossroadslaw10_ProgTexts.j1 k x (i : Int) (nameOf y.f0) (mostB y.f0) true L N) true := by
        refine Ev.step (f := fun k => (crossroadslaw10_decimal.f k (i : Int)).bind fun t188 => (if x.size + t188.size ≤ 9223372036854775807 then (if (x ++ t188).size + 3 ≤ 9223372036854775807 then (crossroadslaw10_ProgTexts.l0 k ((x ++ t188) ++ (⟨#[32, 63, 10]⟩ : ByteArray)) (wrap64 ((i : Int) + 1)) L N) else (none)) else (none))) (fun k => by rw [crossroadslaw10_ProgTexts.j1, if_pos rfl]) ?_
        refine Ev.bind hdi ?_
        rw [hw]
        refine Ev.congr (fun k => by rw [if_pos (by omega), if_pos (by rw [ByteArray.size_append]; omega)]) ?_
        exact key _ (by rw [app_data, app_data, hone, List.append_assoc])
      cases hin : inR y.f0
      · refine Ev.step (fun k => ?_) hj
        rw [crossroadslaw10_ProgTexts.l0, if_pos (by omega), if_pos (by omega), hr, show crossroadsref12_Row.f y.f0 = some (nameOf y.f0, takesB y.f0, givesB y.f0, mostB y.f0, false) by unfold crossroadsref12_Row.f; rw [hin], Option.bind_some, if_neg (by simp)]
      · refine Ev.step (fun k => ?_) hj
        rw [crossroadslaw10_ProgTexts.l0, if_pos (by omega), if_pos (by omega), hr, show crossroadsref12_Row.f y.f0 = some (nameOf y.f0, takesB y.f0, givesB y.f0, mostB y.f0, true) by unfold crossroadsref12_Row.f; rw [hin], Option.bind_some, if_pos rfl, show crossroadsref12_InstMay.f y.f0 y.f1 = some false by unfold crossroadsref12_InstMay.f; rw [hm], Option.bind_some]
        rfl
    · obtain ⟨m1, m2, m3, m4, m5⟩ := may_range hm
      have hin : inR y.f0 = true := by
        unfold mayI at hm
        rw [Bool.and_eq_true] at hm
        exact hm.1
      have hmost : mostB y.f0 = (kindOf y.f0).2.2 - 1 := by unfold mostB; rw [if_pos hin]
      refine Ev.step (f := fun k => crossroadslaw10_ProgTexts.j1 k x (i : Int) (nameOf y.f0) (mostB y.f0) false L N) (fun k => ?_) ?_
      · rw [crossroadslaw10_ProgTexts.l0, if_pos (by omega), if_pos (by omega), hr, show crossroadsref12_Row.f y.f0 = some (nameOf y.f0, takesB y.f0, givesB y.f0, mostB y.f0, true) by unfold crossroadsref12_Row.f; rw [hin], Option.bind_some, if_pos rfl, show crossroadsref12_InstMay.f y.f0 y.f1 = some true by unfold crossroadsref12_InstMay.f; rw [hm], Option.bind_some]
        rfl
      · by_cases hk : (kindOf y.f0).2.2 ≤ 1
        · have hone : (oneB i y).data.toList = (itoaB (i : Int)).data.toList ++ [32] ++ (nameOf y.f0).data.toList ++ [10] := by
            unfold oneB lineV
            rw [hm, if_pos rfl, if_pos hk, app_data, app_data, app_data]
          refine Ev.step (f := fun k => (crossroadslaw10_decimal.f k (i : Int)).bind fun t189 => (if x.size + t189.size ≤ 9223372036854775807 then (if (x ++ t189).size + 1 ≤ 9223372036854775807 then (if ((x ++ t189) ++ (⟨#[32]⟩ : ByteArray)).size + (nameOf y.f0).size ≤ 9223372036854775807 then (if (((x ++ t189) ++ (⟨#[32]⟩ : ByteArray)) ++ (nameOf y.f0)).size + 1 ≤ 9223372036854775807 then (crossroadslaw10_ProgTexts.l0 k ((((x ++ t189) ++ (⟨#[32]⟩ : ByteArray)) ++ (nameOf y.f0)) ++ (⟨#[10]⟩ : ByteArray)) (wrap64 ((i : Int) + 1)) L N) else (none)) else (none)) else (none)) else (none))) (fun k => by rw [crossroadslaw10_ProgTexts.j1, if_neg (by decide), if_pos (by omega)]) ?_
          refine Ev.bind hdi ?_
          rw [hw]
          refine Ev.congr (fun k => by rw [if_pos (by omega), if_pos (by rw [ByteArray.size_append]; omega), if_pos (by rw [ByteArray.size_append, ByteArray.size_append, s32]; omega), if_pos (by rw [ByteArray.size_append, ByteArray.size_append, ByteArray.size_append, s32]; omega)]) ?_
          exact key _ (by rw [app_data, app_data, app_data, app_data, hone]; simp)
        · have hone : (oneB i y).data.toList = (itoaB (i : Int)).data.toList ++ [32] ++ ((nameOf y.f0).data.toList ++ [32] ++ (itoaB y.f1).data.toList) ++ [10] := by
            unfold oneB lineV
            rw [hm, if_pos rfl, if_neg hk, app_data, app_data, app_data, app_data, app_data]
          have hdf := dec_ev y.f1 m3 (by omega)
          have hfs := itoaB_size y.f1 (by omega) (by omega)
          refine Ev.step (f := fun k => (crossroadslaw10_decimal.f k (i : Int)).bind fun t190 => (if x.size + t190.size ≤ 9223372036854775807 then (if (x ++ t190).size + 1 ≤ 9223372036854775807 then (if ((x ++ t190) ++ (⟨#[32]⟩ : ByteArray)).size + (nameOf y.f0).size ≤ 9223372036854775807 then (if (((x ++ t190) ++ (⟨#[32]⟩ : ByteArray)) ++ (nameOf y.f0)).size + 1 ≤ 9223372036854775807 then (if 0 ≤ (i : Int) then (if (i : Int) < (L.length : Int) then ((crossroadslaw10_decimal.f k ((rd_T41 L (i : Int)).f1)).bind fun t192 => (if ((((x ++ t190) ++ (⟨#[32]⟩ : ByteArray)) ++ (nameOf y.f0)) ++ (⟨#[32]⟩ : ByteArray)).size + t192.size ≤ 9223372036854775807 then (if (((((x ++ t190) ++ (⟨#[32]⟩ : ByteArray)) ++ (nameOf y.f0)) ++ (⟨#[32]⟩ : ByteArray)) ++ t192).size + 1 ≤ 9223372036854775807 then (crossroadslaw10_ProgTexts.l0 k ((((((x ++ t190) ++ (⟨#[32]⟩ : ByteArray)) ++ (nameOf y.f0)) ++ (⟨#[32]⟩ : ByteArray)) ++ t192) ++ (⟨#[10]⟩ : ByteArray)) (wrap64 ((i : Int) + 1)) L N) else (none)) else (none))) else (none)) else (none)) else (none)) else (none)) else (none)) else (none))) (fun k => by rw [crossroadslaw10_ProgTexts.j1, if_neg (by decide), if_neg (by omega)]) ?_
          refine Ev.bind hdi ?_
          rw [hw, hr]
          refine Ev.congr (fun k => by rw [if_pos (by omega), if_pos (by rw [ByteArray.size_append]; omega), if_pos (by rw [ByteArray.size_append, ByteArray.size_append, s32]; omega), if_pos (by rw [ByteArray.size_append, ByteArray.size_append, ByteArray.size_append, s32]; omega), if_pos (by omega), if_pos (by omega)]) ?_
          refine Ev.bind hdf ?_
          refine Ev.congr (fun k => by rw [if_pos (by rw [ByteArray.size_append, ByteArray.size_append, ByteArray.size_append, ByteArray.size_append, s32]; omega), if_pos (by rw [ByteArray.size_append, ByteArray.size_append, ByteArray.size_append, ByteArray.size_append, ByteArray.size_append, s32]; omega)]) ?_
          exact key _ (by rw [app_data, app_data, app_data, app_data, app_data, app_data, hone]; simp)
theorem wf64 {a : Int} (h : (Lit.int .i64 a).wf = true) : -9223372036854775808 ≤ a ∧ a ≤ 9223372036854775807 := by
  simp [Lit.wf, IntKind.min, IntKind.max, IntKind.bits, IntKind.signed] at h
  omega
theorem ProgTexts : crossroadslaw10_ProgTexts.Pure := by
  rintro L N ⟨_, h2, h3⟩ ⟨h4, h5, _⟩
  refine Ev.rounds ?_
  unfold crossroadslaw10_ProgTexts.f
  refine Ev.congr (fun k => by rw [show crossroadslaw10_awake.f = some true from rfl, Option.bind_some, if_pos rfl]) ?_
  obtain ⟨b, hb, hs⟩ := small_ev L N (by omega)
  refine Ev.bind hb ?_
  cases b
  · exact Ev.congr (fun k => if_neg (by decide)) (Ev.now _)
  · refine Ev.congr (fun k => if_pos rfl) ?_
    exact texts_l0 L N (hs rfl).1 (fun x hx => wf64 (h3 x hx).2) L 0 ⟨#[]⟩ rfl (Nat.zero_le _) rfl
end Go.Proofs.YtckmgoeflecpgaaDoor.Pure
