/- The law TarSums over numbers and lists: one byte of a head that is turned is told. -/
import Derived.Test.YtlnogacjebbepaaDoorTarA
import Derived.Test.YtlnogacjebbepaaDoorPx7
namespace Go.Proofs.YtlnogacjebbepaaDoor.Pure
set_option linter.unusedVariables false
open Go.RowKit Go.Proofs.YtlnogacjebbepaaDoor.P Go.Proofs.YtlnogacjebbepaaDoor.G Go.Proofs.YtlnogacjebbepaaDoor.H Go.Proofs.YtlnogacjebbepaaDoorW.PrintWords Go.Proofs.YtlnogacjebbepaaDoorW.PrintLast Go.Proofs.YtlnogacjebbepaaDoorW.PrintMore
theorem xor8 (a b : Nat) (ha : a < 256) (hb : b < 256) : Go.bits .xor .u8 (a : Int) (b : Int) = ((a ^^^ b : Nat) : Int) := by
  have hlt : a ^^^ b < 2 ^ 8 := Nat.xor_lt_two_pow ha hb
  have ha' : a % 2 ^ IntKind.u8.bits = a := Nat.mod_eq_of_lt ha
  have hb' : b % 2 ^ IntKind.u8.bits = b := Nat.mod_eq_of_lt hb
  simp only [Go.bits, BitVec.ofInt_natCast, BitVec.toNat_xor, BitVec.toNat_ofNat, ha', hb']
  rw [IntKind.wrap_u8]
  omega
theorem xor_ne (a b : Nat) (hb : b ≠ 0) : a ^^^ b ≠ a := fun h => hb (by
  have : a ^^^ (a ^^^ b) = b := by rw [← Nat.xor_assoc, Nat.xor_self, Nat.zero_xor]
  rw [h, Nat.xor_self] at this
  exact this.symm)
def sumN : Nat → List Int → Int
  | _, [] => 0
  | i, x :: r => (if 148 ≤ i ∧ i < 156 then 32 else x) + sumN (i + 1) r
theorem sumN_b : ∀ (L : List Int) (i : Nat), okB L → 0 ≤ sumN i L ∧ sumN i L ≤ 255 * (L.length : Int)
  | [], i, _ => by simp [sumN]
  | x :: L, i, h => by
    have hx := h x (by simp)
    have ih := sumN_b L (i + 1) (fun y hy => h y (by simp [hy]))
    have hl : (x :: L).length = L.length + 1 := rfl
    rw [sumN, hl]
    by_cases c : 148 ≤ i ∧ i < 156
    · rw [if_pos c]; omega
    · rw [if_neg c]; omega
theorem sumW_N : ∀ (L : List Int) (a : Int) (i : Nat), okB L → 0 ≤ a → a + 255 * (L.length : Int) ≤ 1000000000 → sumW a i L = a + sumN i L
  | [], a, i, _, _, _ => by simp [sumW, sumN]
  | x :: L, a, i, h, h0, h1 => by
    have hx := h x (by simp)
    have hl : (x :: L).length = L.length + 1 := rfl
    rw [hl] at h1
    rw [sumW, sumN]
    by_cases c : 148 ≤ i ∧ i < 156
    · rw [if_pos c, if_pos c, w64 (x := a + 32) (by omega), sumW_N L _ _ (fun y hy => h y (by simp [hy])) (by omega) (by omega)]; omega
    · rw [if_neg c, if_neg c, w64 (x := x) (by omega), w64 (x := a + x) (by omega), sumW_N L _ _ (fun y hy => h y (by simp [hy])) (by omega) (by omega)]; omega
theorem sumN_set : ∀ (L : List Int) (i j : Nat) (y : Int), j < L.length → ¬ (148 ≤ i + j ∧ i + j < 156) → sumN i (L.set j y) = sumN i L + y - L.getD j 0
  | [], i, j, y, h, _ => by simp at h
  | x :: L, i, 0, y, h, hn => by
    rw [List.set_cons_zero, sumN, sumN, if_neg (by omega), if_neg (by omega)]
    simp
    omega
  | x :: L, i, j + 1, y, h, hn => by
    rw [List.set_cons_succ, sumN, sumN, sumN_set L (i + 1) j y (by simpa using h) (by omega)]
    simp
    omega
theorem oct6_inj {a b : Int} (ha : 0 ≤ a ∧ a < 262144) (hb : 0 ≤ b ∧ b < 262144) (h : octV a 6 = octV b 6) : a = b := by
  rw [octV_nums a 6 (by omega), octV_nums b 6 (by omega)] at h
  have h2 := List.append_cancel_right h
  rw [nums_octS, nums_octS] at h2
  have h3 := List.append_cancel_right h2
  have e : (8 : Int) ^ 6 = 262144 := by decide
  have na := numL_digits 6 a [] ha.1 (by omega) (by omega)
  have nb := numL_digits 6 b [] hb.1 (by omega) (by omega)
  rw [h3, nb] at na
  injection na with na _
  exact na.symm
theorem turned_sum (x : S44) (hn : x.f0.size ≤ 99) (j : Nat) (hj : j < 512) (y : Int) (hy : 0 ≤ y ∧ y < 256) (hne : (headL x.f0 x.f1 (x.f2.length : Int))[j]? ≠ some y) : sumOk ((headL x.f0 x.f1 (x.f2.length : Int)).set j y) = false := by
  have hlen := headL_len x.f0 x.f1 (x.f2.length : Int) hn
  have hok := okB_head x.f0 x.f1 (x.f2.length : Int)
  have hsf := head_sumField (dir := x.f1) (n := (x.f2.length : Int)) hn
  have hsv := head_sum (dir := x.f1) (n := (x.f2.length : Int)) hn
  rw [← hsv] at hsf
  generalize headL x.f0 x.f1 (x.f2.length : Int) = H at *
  have hok' : okB (H.set j y) := okB_set j hok hy
  have hof : okB (octV (sumV (H.set j y)) 6 ++ [32]) := okB_app (okB_oct _ 6 (by omega)) (fun z hz => by simp at hz; omega)
  refine str_ne (okB_drop (okB_take hok' _) _) hof ?_
  intro he
  by_cases c : 148 ≤ j ∧ j < 156
  · have es : sumV (H.set j y) = sumV H := by
      unfold sumV
      exact sumW_congr _ _ _ _ (by rw [List.length_set]) (fun q hq => by rw [List.getElem?_set_ne (by omega)])
    rw [es, ← hsf] at he
    have h1 : (sumField (H.set j y))[j - 148]? = some y := by
      unfold sumField
      rw [List.getElem?_drop, List.getElem?_take, if_pos (by omega)]
      have : 148 + (j - 148) = j := by omega
      rw [this, List.getElem?_set_self (by omega)]
    have h2 : (sumField H)[j - 148]? = H[j]? := by
      unfold sumField
      rw [List.getElem?_drop, List.getElem?_take, if_pos (by omega)]
      have : 148 + (j - 148) = j := by omega
      rw [this]
    have he' : sumField (H.set j y) = sumField H := he
    rw [he', h2] at h1
    exact hne h1
  · have ef : sumField (H.set j y) = sumField H := by
      unfold sumField
      refine List.ext_getElem? fun q => ?_
      rw [List.getElem?_drop, List.getElem?_drop, List.getElem?_take, List.getElem?_take]
      by_cases hq : 148 + q < 156
      · rw [if_pos hq, if_pos hq, List.getElem?_set_ne (by omega)]
      · rw [if_neg hq, if_neg hq]
    have he' : sumField (H.set j y) = octV (sumV (H.set j y)) 6 ++ [32] := he
    rw [ef, hsf] at he'
    have h3 := List.append_cancel_right he'
    have s1 : sumV H = sumN 0 H := by unfold sumV; rw [sumW_N H 0 0 hok (by omega) (by omega)]; omega
    have s2 : sumV (H.set j y) = sumN 0 (H.set j y) := by unfold sumV; rw [sumW_N _ 0 0 hok' (by omega) (by rw [List.length_set]; omega)]; omega
    have b1 := sumN_b H 0 hok
    have b2 := sumN_b (H.set j y) 0 hok'
    rw [List.length_set] at b2
    have h4 := oct6_inj (by omega) (by omega) h3
    rw [s1, s2, sumN_set H 0 j y (by omega) (by omega)] at h4
    have hjl : j < H.length := by omega
    have h5 : H.getD j 0 = H[j] := by rw [List.getD_eq_getElem?_getD, List.getElem?_eq_getElem hjl]; rfl
    apply hne
    rw [List.getElem?_eq_getElem hjl]
    congr 1
    omega
theorem TarSums : crossroadslaw22_TarSums.Pure := by
  unfold crossroadslaw22_TarSums.Pure
  intro l0 a1 a2 hs h1 h2
  have w1 : 0 ≤ a1 ∧ a1 < 65536 := by simp [Lit.wf, IntKind.min, IntKind.max, IntKind.bits, IntKind.signed] at h1; omega
  have w2 : 0 ≤ a2 ∧ a2 < 256 := by simp [Lit.wf, IntKind.min, IntKind.max, IntKind.bits, IntKind.signed] at h2; omega
  suffices h : Ev (fun k => crossroadslaw22_TarSums.f k l0 a1 a2) true from h.rounds
  refine Ev.bind awake_ev ?_
  refine Ev.congr (fun k => if_pos rfl) ?_
  obtain ⟨b, hb, hbt⟩ := small_ev l0 hs
  refine Ev.bind hb ?_
  have out : Ev (fun k => crossroadslaw22_TarSums.j0 k l0 a1 a2 true) true := Ev.step (f := fun _ => some true) (fun k => by rw [crossroadslaw22_TarSums.j0, if_pos rfl]) (Ev.now _)
  cases b with
  | false => exact Ev.congr (fun k => if_neg (by decide)) out
  | true =>
    refine Ev.congr (fun k => if_pos rfl) ?_
    obtain ⟨s1, s2⟩ := hbt rfl
    have s3 : ∀ x ∈ l0, x.f2.length ≤ 1000000000 ∧ x.f0.size ≤ 1000000000 := fun x hx => ⟨by have := (s2 x hx).2; omega, by have := (s2 x hx).1; omega⟩
    have s4 : ∀ x ∈ l0, okB x.f2 := fun x hx => okB_of (hs.2.2 x hx).2.2.2.2
    cases l0 with
    | nil => exact Ev.congr (fun k => if_pos rfl) out
    | cons x d =>
      refine Ev.congr (fun k => if_neg (by simp only [List.length_cons]; omega)) ?_
      by_cases c : a2 = 0
      · rw [c]; rw [c] at out; exact out
      · have e : (a2 == 0) = false := beq_eq_false_iff_ne.2 c
        rw [e]
        have hw := refw_ev (x :: d) (by omega) s3
        have ew : wrap64 a1 = a1 := w64 (by omega)
        obtain ⟨j, hj, hj2⟩ : ∃ j : Nat, Int.tmod (wrap64 a1) 512 = (j : Int) ∧ j < 512 := by
          rw [ew]
          refine ⟨(a1 % 512).toNat, ?_, by omega⟩
          rw [Int.tmod_eq_emod_of_nonneg w1.1]
          omega
        unfold writeV at hw
        by_cases hm : mayV ((x :: d).map conv) = 0
        · rw [if_pos hm] at hw
          have hok := (may_ok hm).1
          have okx : okF (conv x) := hok _ (by simp)
          have hn := okF_name okx
          have hlen := headL_len (conv x).f0 (conv x).f1 ((conv x).f2.length : Int) hn
          have hbl := bodyB_len _ hok
          have hcst := (may_ok hm).2
          have hbok : okB (bodyB ((x :: d).map conv) ++ zs 1024) := by
            have key : ∀ l : List S37, (∀ z ∈ l, okB z.f2) → okB (bodyB (l.map conv)) := by
              intro l
              induction l with
              | nil => intro _ z hz; simp [bodyB] at hz
              | cons z l ih =>
                intro hz
                rw [List.map_cons, bodyB]
                exact okB_app (okB_app (okB_app (okB_head _ _ _) (hz z (by simp))) (okB_zs _)) (ih (fun q hq => hz q (by simp [hq])))
            exact okB_app (key _ s4) (okB_zs _)
          have eB : bodyB ((x :: d).map conv) ++ zs 1024 = headL (conv x).f0 (conv x).f1 ((conv x).f2.length : Int) ++ ((conv x).f2 ++ (zs (pad (conv x).f2.length) ++ (bodyB (d.map conv) ++ zs 1024))) := by
            rw [List.map_cons, bodyB]; unfold fileB; simp [List.append_assoc]
          have hBl : (bodyB ((x :: d).map conv) ++ zs 1024).length = 512 * costs ((x :: d).map conv) + 1024 := by rw [List.length_append, hbl, zs_len]
          have hturn := turned_sum (conv x) hn j hj2
          have hmag := head_magic (name := (conv x).f0) (dir := (conv x).f1) (n := ((conv x).f2.length : Int)) hn
          generalize (conv x).f2 ++ (zs (pad (conv x).f2.length) ++ (bodyB (d.map conv) ++ zs 1024)) = T at eB
          generalize headL (conv x).f0 (conv x).f1 ((conv x).f2.length : Int) = H at eB hlen hturn hmag
          generalize bodyB ((x :: d).map conv) ++ zs 1024 = B at hw hbok eB hBl
          have hjB : j < B.length := by omega
          have hjH : j < H.length := by omega
          have hBj : B[j]? = H[j]? := by rw [eB, List.getElem?_append_left (by omega)]
          have hrd : rd B (j : Int) = H[j] := by
            unfold rd
            rw [Int.toNat_natCast, List.getD_eq_getElem?_getD, hBj, List.getElem?_eq_getElem hjH]
            rfl
          have hvr : 0 ≤ H[j] ∧ H[j] < 256 := hbok _ (by rw [eB]; exact List.mem_append.2 (.inl (List.getElem_mem hjH)))
          obtain ⟨v, hv⟩ := Int.eq_ofNat_of_zero_le hvr.1
          obtain ⟨u, rfl⟩ := Int.eq_ofNat_of_zero_le w2.1
          have hy : Go.bits .xor .u8 (rd B (j : Int)) (u : Int) = ((v ^^^ u : Nat) : Int) := by rw [hrd, hv]; exact xor8 v u (by omega) (by omega)
          have hylt : v ^^^ u < 2 ^ 8 := Nat.xor_lt_two_pow (by omega) (by omega)
          have hyne := xor_ne v u (by omega)
          have hbad := hturn ((v ^^^ u : Nat) : Int) (by omega) (by
            rw [List.getElem?_eq_getElem hjH, hv]
            intro h
            injection h with h
            omega)
          have eS : B.set j ((v ^^^ u : Nat) : Int) = H.set j ((v ^^^ u : Nat) : Int) ++ T := by rw [eB, List.set_append_left _ _ hjH]
          have hSl : (B.set j ((v ^^^ u : Nat) : Int)).length = B.length := List.length_set
          have hS5 : (B.set j ((v ^^^ u : Nat) : Int)).take 512 = H.set j ((v ^^^ u : Nat) : Int) := by
            rw [eS]
            have : (H.set j ((v ^^^ u : Nat) : Int)).length = 512 := by rw [List.length_set]; exact hlen
            rw [← this, List.take_left]
          have hnz : zeroB (H.set j ((v ^^^ u : Nat) : Int)) = false := by
            by_cases c2 : j = 257
            · exact nz_of (i := 258) (x := 115) (by rw [List.getElem?_set_ne (by omega)]; exact hmag.2) (by decide)
            · exact nz_of (i := 257) (x := 117) (by rw [List.getElem?_set_ne (by omega)]; exact hmag.1) (by decide)
          have eo := one_f (B.set j ((v ^^^ u : Nat) : Int)) (by omega) (by omega)
          have eo2 : oneV (B.set j ((v ^^^ u : Nat) : Int)) = (⟨#[]⟩, false, [], [], 14) := by unfold oneV; rw [hS5, if_pos hbad]
          rw [eo2] at eo
          have hread : Ev (fun k => tar_Read.f k (B.set j ((v ^^^ u : Nat) : Int))) ([], 14) := by
            refine Ev.step (g := fun k => tar_Read.l0 k (B.set j ((v ^^^ u : Nat) : Int)) ((B.set j ((v ^^^ u : Nat) : Int)).length : Int) []) (f := fun _ => some ([], 14)) (fun k => ?_) (Ev.now _)
            rw [tar_Read.l0, if_neg (by omega), if_pos (by omega), hS5, zero_f, Option.bind_some, hnz, if_neg (by decide), eo, Option.bind_some, if_neg (by decide)]
          generalize hgB : B.set j ((v ^^^ u : Nat) : Int) = B' at hread
          have hres : ∀ k : Nat, (if ((([] : List S44), (14 : Int)).2 = 0) then (none : Option Bool) else (if (j : Int) ≥ 148 then (if (j : Int) < 156 then (some true) else (some ((([] : List S44), (14 : Int)).2 == 14))) else (some ((([] : List S44), (14 : Int)).2 == 14)))) = some true := fun k => by
            rw [if_neg (by decide)]
            by_cases g1 : (j : Int) ≥ 148
            · rw [if_pos g1]
              by_cases g2 : (j : Int) < 156
              · rw [if_pos g2]
              · rw [if_neg g2]; rfl
            · rw [if_neg g1]; rfl
          refine Ev.step (f := fun k => (crossroadsref22_Write.f k (x :: d)).bind fun bt => if bt.2 = 0 then (if 0 ≤ (Int.tmod (wrap64 (a1)) 512) then (if (Int.tmod (wrap64 (a1)) 512) < (bt.1.length : Int) then ((tar_Read.f k (bt.1.set ((Int.tmod (wrap64 (a1)) 512) : Int).toNat (Go.bits .xor .u8 (rd bt.1 (Int.tmod (wrap64 (a1)) 512)) (u : Int)))).bind fun bt258 => (if bt258.2 = 0 then (none) else (if (Int.tmod (wrap64 (a1)) 512) ≥ 148 then (if (Int.tmod (wrap64 (a1)) 512) < 156 then (some true) else (some (bt258.2 == 14))) else (some (bt258.2 == 14))))) else (none)) else (none)) else (some true)) (fun k => by rw [crossroadslaw22_TarSums.j0, if_neg (by decide)]) ?_
          refine Ev.bind hw ?_
          refine Ev.congr (fun k => if_pos rfl) ?_
          rw [hj]
          refine Ev.congr (fun k => if_pos (by omega)) ?_
          refine Ev.congr (fun k => if_pos (by show (j : Int) < (B.length : Int); omega)) ?_
          simp only [Int.toNat_natCast]
          rw [hy, hgB]
          exact Ev.bind hread (Ev.congr hres (Ev.now _))
        · rw [if_neg hm] at hw
          refine Ev.step (f := fun k => (crossroadsref22_Write.f k (x :: d)).bind fun bt => if bt.2 = 0 then (if 0 ≤ (Int.tmod (wrap64 (a1)) 512) then (if (Int.tmod (wrap64 (a1)) 512) < (bt.1.length : Int) then ((tar_Read.f k (bt.1.set ((Int.tmod (wrap64 (a1)) 512) : Int).toNat (Go.bits .xor .u8 (rd bt.1 (Int.tmod (wrap64 (a1)) 512)) a2))).bind fun bt258 => (if bt258.2 = 0 then (none) else (if (Int.tmod (wrap64 (a1)) 512) ≥ 148 then (if (Int.tmod (wrap64 (a1)) 512) < 156 then (some true) else (some (bt258.2 == 14))) else (some (bt258.2 == 14))))) else (none)) else (none)) else (some true)) (fun k => by rw [crossroadslaw22_TarSums.j0, if_neg (by decide)]) ?_
          exact Ev.bind hw (Ev.congr (fun k => if_neg hm) (Ev.now _))
end Go.Proofs.YtlnogacjebbepaaDoor.Pure
