/- The reference's May, walked by hand over the contracts of NewTree, files, Caps. -/
import Derived.Test.YtmlnoapfhimgoaaGMay
namespace Go.Proofs.Ytmlnoapfhimgoaa.G
set_option linter.unusedVariables false
set_option linter.unusedSimpArgs false
open Go.RowKit Go.Maps Go.Proofs.Ytmlnoapfhimgoaa.P Go.Proofs.Ytmlnoapfhimgoaa.Q Go.Proofs.Ytmlnoapfhimgoaa.Lem Go.Proofs.Ytmlnoapfhimgoaa.Tree Go.Proofs.YtmlnoapfhimgoaaW.PrintWords Go.Proofs.YtmlnoapfhimgoaaW.PrintLast Go.Proofs.YtmlnoapfhimgoaaW.PrintMore
/-- The caps: the files', then the arguments'. -/
def fcaps : List S38 → List Int
  | [] => []
  | x :: r => if x.f1 = true then fcaps r else x.f2 :: fcaps r
theorem fcaps_len : ∀ (t : List S38) (i : Int), (fcaps t).length = (filesFrom t i).length
  | [], _ => rfl
  | x :: r, i => by
    unfold fcaps filesFrom
    have := fcaps_len r (i + 1)
    split <;> simp [this]
theorem fcaps_le (t : List S38) : (fcaps t).length ≤ t.length := by rw [fcaps_len t 0]; exact filesFrom_le t 0
theorem caps_l0 (t : List S38) (l : List Int) (a b c : Int) (hz : t.length ≤ 4398046511104) (hl : t.length + l.length < 17592186044416) : ∀ (d : List S38) (acc : List Int) (i : Nat), t.drop i = d → acc.length ≤ i → i + d.length = t.length → Ev (fun k => Q.crossroadsref17_Caps.l0 k acc (i : Int) t l a b c) (acc ++ fcaps d ++ l)
  | [], acc, i, h, ha, hi => by
    refine Ev.step (f := fun _ => some (acc ++ l)) (fun k => ?_) (by rw [fcaps, List.append_nil]; exact Ev.now _)
    rw [Q.crossroadsref17_Caps.l0, if_neg (by simp at hi; omega), if_pos (by simp at hi; omega)]
  | x :: d, acc, i, h, ha, hi => by
    have hlt : i < t.length := by simp at hi; omega
    have hd : t.drop (i + 1) = d := by rw [List.drop_eq_getElem_cons hlt] at h; injection h
    have hx : rd_T38 t (i : Int) = x := by
      rw [List.drop_eq_getElem_cons hlt] at h
      injection h with h _
      unfold rd_T38
      rw [List.getD_eq_getElem?_getD, Int.toNat_natCast, List.getElem?_eq_getElem hlt]
      exact h
    have hw : wrap64 ((i : Int) + 1) = ((i + 1 : Nat) : Int) := by unfold wrap64; omega
    rw [fcaps]
    by_cases hf : x.f1 = true
    · rw [if_pos hf]
      refine Ev.step (fun k => ?_) (caps_l0 t l a b c hz hl d acc (i + 1) hd (by omega) (by simp at hi; omega))
      rw [Q.crossroadsref17_Caps.l0, if_pos (by omega), if_pos (by omega), hx, if_pos hf, hw]
    · rw [if_neg hf]
      have := caps_l0 t l a b c hz hl d (acc ++ [x.f2]) (i + 1) hd (by rw [List.length_append]; simp; omega) (by simp at hi; omega)
      rw [List.append_assoc acc] at this
      refine Ev.step (fun k => ?_) this
      rw [Q.crossroadsref17_Caps.l0, if_pos (by omega), if_pos (by omega), hx, if_neg hf, if_pos (by omega), hw]
def capsC (t : List S38) (l : List Int) : List Int := fcaps t ++ l
theorem caps_is (t : List S38) (l : List Int) (a b c : Int) (hz : t.length ≤ 4398046511104) (hl : t.length + l.length < 17592186044416) : Ev (fun k => Q.crossroadsref17_Caps.f k t l a b c) (capsC t l) := by
  have := caps_l0 t l a b c hz hl t [] 0 rfl (Nat.le_refl _) (by simp)
  exact this
theorem rfiles_is (t : List S38) (l : List Int) (a b c : Int) (hz : t.length ≤ 4398046511104) (hl : t.length + l.length < 17592186044416) : Ev (fun k => Q.crossroadsref17_files.f k t l a b c) ((filesL t).length : Int) := by
  have h1 : wrap64 (((capsC t l).length : Int) - (l.length : Int)) = ((filesL t).length : Int) := by
    have h2 : (capsC t l).length = (filesL t).length + l.length := by unfold capsC filesL; rw [List.length_append, fcaps_len t 0]
    have h3 := filesFrom_le t 0
    unfold wrap64
    unfold filesL at h2 ⊢
    omega
  rw [← h1]
  exact Ev.bind (caps_is t l a b c hz hl) (Ev.now _)
def okD (x : S38) : Bool := !(x.f1 && x.f2 != 0)
def mayR (t : List S38) (l : List Int) (a b c : Int) : Bool := treeR t && (decide ((filesL t).length ≤ 4) && (decide (l.length ≤ 2) && (fitsB a 6 && (fitsB b a && (fitsB c 400 && (t.all okD && (capsC t l).all (fun n => fitsB n 3)))))))
theorem fits_split : ∀ t : List S38, (t.all okD && (fcaps t).all (fun n => fitsB n 3)) = t.all okT
  | [] => rfl
  | x :: r => by
    have h := fits_split r
    rw [List.all_cons, List.all_cons, ← h, fcaps]
    unfold okT
    cases hf : x.f1
    · rw [if_neg (by decide), List.all_cons]
      have hd : okD x = true := by unfold okD; rw [hf]; rfl
      rw [hd]
      cases fitsB x.f2 3 <;> cases List.all r okD <;> simp
    · rw [if_pos rfl]
      unfold okD
      rw [hf]
      by_cases h0 : x.f2 = 0
      · have : fitsB x.f2 3 = true := by rw [h0]; decide
        rw [this]
        simp [h0]
      · have : (x.f2 != 0) = true := bne_iff_ne.mpr h0
        simp [this]
theorem mayR_is (t : List S38) (l : List Int) (a b c : Int) : mayR t l a b c = mayC t l a b c := by
  unfold mayR mayC capsC
  rw [tree_is, List.all_append, ← fits_split t]
  cases treeB t <;> cases decide ((filesL t).length ≤ 4) <;> cases decide (l.length ≤ 2) <;> cases fitsB a 6 <;> cases fitsB b a <;> cases fitsB c 400 <;> simp [Bool.and_assoc]
set_option maxHeartbeats 8000000 in
set_option maxRecDepth 100000 in
theorem rmay_walk (A0 : Option Addr) (c0 : Nat) (t : List S38) (A1 : Option Addr) (c1 : Nat) (l : List Int) (a b c : Int) (w : World) (hr0 : Kd.C k38 w A0 t.length t) (hc0 : t.length ≤ c0) (hr1 : Kd.C (Kd.int .i64) w A1 l.length l) (hc1 : l.length ≤ c1) (hz : ∀ x ∈ t, x.f0.size ≤ 140737488351232) (hll : l.length ≤ 17592186043904) :
    Calls Try.prog 14 #[.agg #[.slice A0 t.length c0, .slice A1 l.length c1, .int .i64 a, .int .i64 b, .int .i64 c]] w fun e w' => e = .returned (.bool (mayR t l a b c)) ∧ Below w.heap.size w w' := by
  have hl0 := hr0.2.1
  have hl1 := hr1.2.1
  have HR0 := Aside0.mk hr0
  have HR1 := Aside0.mk hr1
  have hnew := fun W (hb : Below w.heap.size w W) => newTree_calls A0 c0 t W (Kd.C_below hr0 hb) hc0 hz
  clear hr0 hr1 hz
  obtain ⟨r, hr⟩ : ∃ r, mayR t l a b c = r := ⟨_, rfl⟩
  rw [hr]
  have HRr := Aside0.mk hr
  clear hr
  cases ht : treeR t
  · rw [ht] at hnew
    have hn := Aside0.mk hnew
    have hr0 : Aside0 (r = false) := ⟨by rw [← HRr.out]; unfold mayR; rw [ht]; rfl⟩
    clear hnew ht HRr
    go_enter Try.func14, Try.ntmps14
    go_wp2_with fail
    refine (hn.out _ (below_alloc (Below.refl _ _) _)).mono ?_
    rintro e w2 ⟨v, rfl, hB2⟩
    have hB2A := Aside0.mk (below_then (below_alloc (Below.refl _ _) _) (by simp) hB2)
    have hcd : codeI false = 11 := rfl
    clear hB2
    rw [hcd]
    go_wp2
    go_ret
    exact ⟨by rw [hr0.out]; rfl, hB2A.out⟩
  · rw [ht] at hnew
    have hn := Aside0.mk hnew
    have h8 : t.length ≤ 8 := by
      unfold treeR at ht
      rw [Bool.and_eq_true] at ht
      exact of_decide_eq_true ht.1
    obtain ⟨kf, hkf⟩ := (rfiles_is t l a b c (by omega) (by omega)).rounds
    have hfc := fun W (hb : Below w.heap.size w W) => Q.crossroadsref17_files.calls kf A0 c0 t A1 c1 l a b c ((filesL t).length : Int) W (Kd.C_below HR0.out hb) hc0 (Kd.C_below HR1.out hb) hc1 hkf
    have hf := Aside0.mk hfc
    obtain ⟨kc, hkc⟩ := (caps_is t l a b c (by omega) (by omega)).rounds
    have hcc := fun W (hb : Below w.heap.size w W) => Q.crossroadsref17_Caps.calls kc A0 c0 t A1 c1 l a b c (capsC t l) W (Kd.C_below HR0.out hb) hc0 (Kd.C_below HR1.out hb) hc1 hkc
    have hcA := Aside0.mk hcc
    have hr1 : Aside0 ((decide ((filesL t).length ≤ 4) && (decide (l.length ≤ 2) && (fitsB a 6 && (fitsB b a && (fitsB c 400 && (t.all okD && (capsC t l).all (fun n => fitsB n 3))))))) = r) := ⟨by rw [← HRr.out]; unfold mayR; rw [ht, Bool.true_and]⟩
    have hcd : codeI true = 0 := rfl
    clear hnew ht HRr hkf hfc hkc hcc
    rw [hcd] at hn
    clear hcd
    obtain ⟨nf, hnf⟩ : ∃ n : Nat, (filesL t).length = n := ⟨_, rfl⟩
    rw [hnf] at hf hr1
    clear hnf
    by_cases g0 : nf ≤ 4
    · have d0 : decide ((4 : Int) < (nf : Int)) = false := decide_eq_false (by omega)
      by_cases g1 : l.length ≤ 2
      · have d1 : decide ((2 : Int) < (l.length : Int)) = false := decide_eq_false (by omega)
        by_cases g2 : 0 ≤ a
        · have d2 : decide (a < 0) = false := decide_eq_false (by omega)
          by_cases g3 : a ≤ 6
          · have d3 : decide (6 < a) = false := decide_eq_false (by omega)
            by_cases g4 : 0 ≤ b
            · have d4 : decide (b < 0) = false := decide_eq_false (by omega)
              by_cases g5 : b ≤ a
              · have d5 : decide (a < b) = false := decide_eq_false (by omega)
                by_cases g6 : 0 ≤ c
                · have d6 : decide (c < 0) = false := decide_eq_false (by omega)
                  by_cases g7 : c ≤ 400
                  · have d7 : decide (400 < c) = false := decide_eq_false (by omega)
                    have hr2 : Aside0 (((t.drop (0 : Int).toNat).all okD && (capsC t l).all (fun n => fitsB n 3)) = r) := ⟨by rw [← hr1.out]; unfold fitsB; simp [g0, g1, g2, g3, g4, g5, g6, g7]⟩
                    clear hr1
                    go_enter Try.func14, Try.ntmps14
                    go_wp2_with fail
                    refine (hn.out _ (below_alloc (Below.refl _ _) _)).mono ?_
                    rintro e w2 ⟨v, rfl, hB2⟩
                    have K2 := Aside0.mk ((hB2.block w.heap.size (by simp)).trans (blk_new w (.cells #[.slice A0 t.length c0, .slice A1 l.length c1, .int .i64 a, .int .i64 b, .int .i64 c] 25)))
                    have B2 := Aside0.mk (below_then (below_alloc (Below.refl _ _) _) (by simp) hB2)
                    clear hB2 hn
                    have z0 := blk_cell K2.out 0
                    have z1 := blk_cell K2.out 1
                    have z2 := blk_cell K2.out 2
                    have z3 := blk_cell K2.out 3
                    have z4 := blk_cell K2.out 4
                    simp only [List.getElem?_toArray, List.getElem?_cons_zero, List.getElem?_cons_succ] at z0 z1 z2 z3 z4
                    go_wp2_with fail
                    refine (hf.out _ B2.out).mono ?_
                    rintro e w3 ⟨rfl, hB3⟩
                    have KB := Aside0.mk ((hB3.block _ (blk_lt K2.out)).trans K2.out)
                    have BB := Aside0.mk (below_then B2.out (by have := B2.out.size; omega) hB3)
                    clear hB3 hf K2 B2 z0 z1 z2 z3 z4
                    have z0 := blk_cell KB.out 0
                    have z1 := blk_cell KB.out 1
                    have z2 := blk_cell KB.out 2
                    have z3 := blk_cell KB.out 3
                    have z4 := blk_cell KB.out 4
                    simp only [List.getElem?_toArray, List.getElem?_cons_zero, List.getElem?_cons_succ] at z0 z1 z2 z3 z4
                    go_wp2
                    go_loopg [5] t.length (fun kq v5 w' => ∃ (i : Int), v5 = .int .i64 i ∧ Aside0 (0 ≤ i ∧ (kq : Int) + i = t.length) ∧ Aside0 (((t.drop i.toNat).all okD && (capsC t l).all (fun n => fitsB n 3)) = r) ∧ w' = w3)
                    case atStart => exact ⟨0, rfl, ⟨by simp⟩, hr2, rfl⟩
                    case round =>
                      clear hr2
                      obtain ⟨i, rfl, HI, HN, rfl⟩ := hrel
                      have hI := HI.out
                      by_cases hlt : i < (t.length : Int)
                      · have hw1 : wrap64 (i + 1) = i + 1 := by unfold wrap64; omega
                        obtain ⟨k1, rfl⟩ : ∃ k1, gk = k1 + 1 := ⟨gk - 1, by omega⟩
                        have hN := HN.out
                        rw [all_drop38 okD hI.1 hlt] at hN
                        obtain ⟨ad, ea, x0, x1, x2⟩ := at_T38 HR0.out i hI.1 hlt
                        obtain ⟨e, hE⟩ : ∃ e, rd_T38 t i = e := ⟨_, rfl⟩
                        rw [hE] at hN x0 x1 x2
                        obtain ⟨ep, ed, ec⟩ := e
                        rw [show okD ⟨ep, ed, ec⟩ = !(ed && ec != 0) from rfl] at hN
                        simp only at x0 x1 x2
                        cases ea
                        replace x1 := (BB.out.cell (World.block_lt_of_cell? w _ x1)).trans x1
                        replace x2 := (BB.out.cell (World.block_lt_of_cell? w _ x2)).trans x2
                        have pi : 0 ≤ i ∧ i < (t.length : Int) := ⟨hI.1, hlt⟩
                        clear hE x0
                        cases ed
                        · have hn1 : Aside0 (((t.drop (i + 1).toNat).all okD && (capsC t l).all (fun n => fitsB n 3)) = r) := ⟨by rw [← hN]; simp⟩
                          clear hN HN
                          go_wp2
                          go_roundg k1
                          case measure => omega
                          case rel => exact ⟨i + 1, rfl, ⟨by omega⟩, hn1, rfl⟩
                        · by_cases he : ec = 0
                          · subst he
                            have hn1 : Aside0 (((t.drop (i + 1).toNat).all okD && (capsC t l).all (fun n => fitsB n 3)) = r) := ⟨by rw [← hN]; simp⟩
                            clear hN HN
                            go_wp2
                            go_roundg k1
                            case measure => omega
                            case rel => exact ⟨i + 1, rfl, ⟨by omega⟩, hn1, rfl⟩
                          · have hb1 : (ec != 0) = true := bne_iff_ne.mpr he
                            have hr0 : Aside0 (r = false) := ⟨by rw [← hN, hb1]; rfl⟩
                            clear hN HN he
                            go_wp2
                            go_ret
                            exact ⟨by rw [hr0.out]; rfl, BB.out⟩
                      · have hr3 : Aside0 (((capsC t l).drop (0 : Int).toNat).all (fun n => fitsB n 3) = r) := ⟨by
                          have := HN.out
                          rw [List.drop_of_length_le (show t.length ≤ i.toNat by omega)] at this
                          rw [← this]; rfl⟩
                        clear HN
                        go_wp2_with fail
                        refine (hcA.out _ BB.out).mono ?_
                        rintro e w4 ⟨vc, rfl, hRc, hB4⟩
                        obtain ⟨Ac, cc, rfl, hcc, hCc⟩ := Kd.R_reads hRc
                        have hcl := hCc.2.1
                        have HCc := Aside0.mk hCc
                        have B4 := Aside0.mk (below_then BB.out (by have := BB.out.size; omega) hB4)
                        clear hRc hCc hB4 z0 z1 z2 z3 z4
                        go_wp2
                        go_loopg [7] (capsC t l).length (fun kq v7 w' => ∃ (j : Int), v7 = .int .i64 j ∧ Aside0 (0 ≤ j ∧ (kq : Int) + j = (capsC t l).length) ∧ Aside0 (((capsC t l).drop j.toNat).all (fun n => fitsB n 3) = r) ∧ w' = w4)
                        case atStart => exact ⟨0, rfl, ⟨by simp⟩, hr3, rfl⟩
                        case round =>
                          clear hr3
                          obtain ⟨j, rfl, HJ, HM, rfl⟩ := hrel
                          have hJ := HJ.out
                          by_cases hjl : j < ((capsC t l).length : Int)
                          · have hw2 : wrap64 (j + 1) = j + 1 := by unfold wrap64; omega
                            obtain ⟨k2, rfl⟩ : ∃ k2, gk = k2 + 1 := ⟨gk - 1, by omega⟩
                            have hM := HM.out
                            rw [all_dropI (fun n => fitsB n 3) hJ.1 hjl] at hM
                            obtain ⟨ay, ey, hy⟩ := Kd.at_int HCc.out j hJ.1 hjl
                            obtain ⟨y, hyy⟩ : ∃ y, rd (capsC t l) j = y := ⟨_, rfl⟩
                            rw [hyy] at hM hy
                            cases ey
                            have pj : 0 ≤ j ∧ j < ((capsC t l).length : Int) := ⟨hJ.1, hjl⟩
                            have hM' : (fitsB y 3 && ((capsC t l).drop (j + 1).toNat).all (fun n => fitsB n 3)) = r := hM
                            clear hyy hM
                            by_cases y0 : y < 0
                            · have hr0 : Aside0 (r = false) := ⟨by rw [← hM']; unfold fitsB; rw [decide_eq_false (show ¬ 0 ≤ y by omega)]; rfl⟩
                              have y1 : decide (y < 0) = true := decide_eq_true y0
                              clear hM' HM
                              go_wp2
                              go_ret
                              exact ⟨by rw [hr0.out]; rfl, B4.out⟩
                            · have y1 : decide (y < 0) = false := decide_eq_false y0
                              by_cases y3 : y ≤ 3
                              · have hn1 : Aside0 (((capsC t l).drop (j + 1).toNat).all (fun n => fitsB n 3) = r) := ⟨by rw [← hM']; unfold fitsB; rw [decide_eq_true (show 0 ≤ y by omega), decide_eq_true y3]; simp⟩
                                have y4 : decide (3 < y) = false := decide_eq_false (by omega)
                                clear hM' HM
                                go_wp2
                                go_roundg k2
                                case measure => omega
                                case rel => exact ⟨j + 1, rfl, ⟨by omega⟩, hn1, rfl⟩
                              · have hr0 : Aside0 (r = false) := ⟨by rw [← hM']; unfold fitsB; rw [decide_eq_false y3, Bool.and_false]; rfl⟩
                                have y4 : decide (3 < y) = true := decide_eq_true (by omega)
                                clear hM' HM
                                go_wp2
                                go_ret
                                exact ⟨by rw [hr0.out]; rfl, B4.out⟩
                          · have hr4 : Aside0 (r = true) := ⟨by
                              have := HM.out
                              rw [List.drop_of_length_le (show (capsC t l).length ≤ j.toNat by omega)] at this
                              rw [← this]; rfl⟩
                            go_wp2
                            go_ret
                            exact ⟨by rw [hr4.out]; rfl, B4.out⟩
                  · have d7 : decide (400 < c) = true := decide_eq_true (by omega)
                    have hr0 : Aside0 (r = false) := ⟨by rw [← hr1.out]; unfold fitsB; simp [g7]; try omega⟩
                    clear hr1
                    go_enter Try.func14, Try.ntmps14
                    go_wp2_with fail
                    refine (hn.out _ (below_alloc (Below.refl _ _) _)).mono ?_
                    rintro e w2 ⟨v, rfl, hB2⟩
                    have K2 := Aside0.mk ((hB2.block w.heap.size (by simp)).trans (blk_new w (.cells #[.slice A0 t.length c0, .slice A1 l.length c1, .int .i64 a, .int .i64 b, .int .i64 c] 25)))
                    have B2 := Aside0.mk (below_then (below_alloc (Below.refl _ _) _) (by simp) hB2)
                    clear hB2 hn
                    have z0 := blk_cell K2.out 0
                    have z1 := blk_cell K2.out 1
                    have z2 := blk_cell K2.out 2
                    have z3 := blk_cell K2.out 3
                    have z4 := blk_cell K2.out 4
                    simp only [List.getElem?_toArray, List.getElem?_cons_zero, List.getElem?_cons_succ] at z0 z1 z2 z3 z4
                    go_wp2_with fail
                    refine (hf.out _ B2.out).mono ?_
                    rintro e w3 ⟨rfl, hB3⟩
                    have KB := Aside0.mk ((hB3.block _ (blk_lt K2.out)).trans K2.out)
                    have BB := Aside0.mk (below_then B2.out (by have := B2.out.size; omega) hB3)
                    clear hB3 hf K2 B2 z0 z1 z2 z3 z4
                    have z0 := blk_cell KB.out 0
                    have z1 := blk_cell KB.out 1
                    have z2 := blk_cell KB.out 2
                    have z3 := blk_cell KB.out 3
                    have z4 := blk_cell KB.out 4
                    simp only [List.getElem?_toArray, List.getElem?_cons_zero, List.getElem?_cons_succ] at z0 z1 z2 z3 z4
                    go_wp2
                    go_ret
                    exact ⟨by rw [hr0.out]; rfl, BB.out⟩
                · have d6 : decide (c < 0) = true := decide_eq_true (by omega)
                  have hr0 : Aside0 (r = false) := ⟨by rw [← hr1.out]; unfold fitsB; simp [g6]; try omega⟩
                  clear hr1
                  go_enter Try.func14, Try.ntmps14
                  go_wp2_with fail
                  refine (hn.out _ (below_alloc (Below.refl _ _) _)).mono ?_
                  rintro e w2 ⟨v, rfl, hB2⟩
                  have K2 := Aside0.mk ((hB2.block w.heap.size (by simp)).trans (blk_new w (.cells #[.slice A0 t.length c0, .slice A1 l.length c1, .int .i64 a, .int .i64 b, .int .i64 c] 25)))
                  have B2 := Aside0.mk (below_then (below_alloc (Below.refl _ _) _) (by simp) hB2)
                  clear hB2 hn
                  have z0 := blk_cell K2.out 0
                  have z1 := blk_cell K2.out 1
                  have z2 := blk_cell K2.out 2
                  have z3 := blk_cell K2.out 3
                  have z4 := blk_cell K2.out 4
                  simp only [List.getElem?_toArray, List.getElem?_cons_zero, List.getElem?_cons_succ] at z0 z1 z2 z3 z4
                  go_wp2_with fail
                  refine (hf.out _ B2.out).mono ?_
                  rintro e w3 ⟨rfl, hB3⟩
                  have KB := Aside0.mk ((hB3.block _ (blk_lt K2.out)).trans K2.out)
                  have BB := Aside0.mk (below_then B2.out (by have := B2.out.size; omega) hB3)
                  clear hB3 hf K2 B2 z0 z1 z2 z3 z4
                  have z0 := blk_cell KB.out 0
                  have z1 := blk_cell KB.out 1
                  have z2 := blk_cell KB.out 2
                  have z3 := blk_cell KB.out 3
                  have z4 := blk_cell KB.out 4
                  simp only [List.getElem?_toArray, List.getElem?_cons_zero, List.getElem?_cons_succ] at z0 z1 z2 z3 z4
                  go_wp2
                  go_ret
                  exact ⟨by rw [hr0.out]; rfl, BB.out⟩
              · have d5 : decide (a < b) = true := decide_eq_true (by omega)
                have hr0 : Aside0 (r = false) := ⟨by rw [← hr1.out]; unfold fitsB; simp [g5]; try omega⟩
                clear hr1
                go_enter Try.func14, Try.ntmps14
                go_wp2_with fail
                refine (hn.out _ (below_alloc (Below.refl _ _) _)).mono ?_
                rintro e w2 ⟨v, rfl, hB2⟩
                have K2 := Aside0.mk ((hB2.block w.heap.size (by simp)).trans (blk_new w (.cells #[.slice A0 t.length c0, .slice A1 l.length c1, .int .i64 a, .int .i64 b, .int .i64 c] 25)))
                have B2 := Aside0.mk (below_then (below_alloc (Below.refl _ _) _) (by simp) hB2)
                clear hB2 hn
                have z0 := blk_cell K2.out 0
                have z1 := blk_cell K2.out 1
                have z2 := blk_cell K2.out 2
                have z3 := blk_cell K2.out 3
                have z4 := blk_cell K2.out 4
                simp only [List.getElem?_toArray, List.getElem?_cons_zero, List.getElem?_cons_succ] at z0 z1 z2 z3 z4
                go_wp2_with fail
                refine (hf.out _ B2.out).mono ?_
                rintro e w3 ⟨rfl, hB3⟩
                have KB := Aside0.mk ((hB3.block _ (blk_lt K2.out)).trans K2.out)
                have BB := Aside0.mk (below_then B2.out (by have := B2.out.size; omega) hB3)
                clear hB3 hf K2 B2 z0 z1 z2 z3 z4
                have z0 := blk_cell KB.out 0
                have z1 := blk_cell KB.out 1
                have z2 := blk_cell KB.out 2
                have z3 := blk_cell KB.out 3
                have z4 := blk_cell KB.out 4
                simp only [List.getElem?_toArray, List.getElem?_cons_zero, List.getElem?_cons_succ] at z0 z1 z2 z3 z4
                go_wp2
                go_ret
                exact ⟨by rw [hr0.out]; rfl, BB.out⟩
            · have d4 : decide (b < 0) = true := decide_eq_true (by omega)
              have hr0 : Aside0 (r = false) := ⟨by rw [← hr1.out]; unfold fitsB; simp [g4]; try omega⟩
              clear hr1
              go_enter Try.func14, Try.ntmps14
              go_wp2_with fail
              refine (hn.out _ (below_alloc (Below.refl _ _) _)).mono ?_
              rintro e w2 ⟨v, rfl, hB2⟩
              have K2 := Aside0.mk ((hB2.block w.heap.size (by simp)).trans (blk_new w (.cells #[.slice A0 t.length c0, .slice A1 l.length c1, .int .i64 a, .int .i64 b, .int .i64 c] 25)))
              have B2 := Aside0.mk (below_then (below_alloc (Below.refl _ _) _) (by simp) hB2)
              clear hB2 hn
              have z0 := blk_cell K2.out 0
              have z1 := blk_cell K2.out 1
              have z2 := blk_cell K2.out 2
              have z3 := blk_cell K2.out 3
              have z4 := blk_cell K2.out 4
              simp only [List.getElem?_toArray, List.getElem?_cons_zero, List.getElem?_cons_succ] at z0 z1 z2 z3 z4
              go_wp2_with fail
              refine (hf.out _ B2.out).mono ?_
              rintro e w3 ⟨rfl, hB3⟩
              have KB := Aside0.mk ((hB3.block _ (blk_lt K2.out)).trans K2.out)
              have BB := Aside0.mk (below_then B2.out (by have := B2.out.size; omega) hB3)
              clear hB3 hf K2 B2 z0 z1 z2 z3 z4
              have z0 := blk_cell KB.out 0
              have z1 := blk_cell KB.out 1
              have z2 := blk_cell KB.out 2
              have z3 := blk_cell KB.out 3
              have z4 := blk_cell KB.out 4
              simp only [List.getElem?_toArray, List.getElem?_cons_zero, List.getElem?_cons_succ] at z0 z1 z2 z3 z4
              go_wp2
              go_ret
              exact ⟨by rw [hr0.out]; rfl, BB.out⟩
          · have d3 : decide (6 < a) = true := decide_eq_true (by omega)
            have hr0 : Aside0 (r = false) := ⟨by rw [← hr1.out]; unfold fitsB; simp [g3]; try omega⟩
            clear hr1
            go_enter Try.func14, Try.ntmps14
            go_wp2_with fail
            refine (hn.out _ (below_alloc (Below.refl _ _) _)).mono ?_
            rintro e w2 ⟨v, rfl, hB2⟩
            have K2 := Aside0.mk ((hB2.block w.heap.size (by simp)).trans (blk_new w (.cells #[.slice A0 t.length c0, .slice A1 l.length c1, .int .i64 a, .int .i64 b, .int .i64 c] 25)))
            have B2 := Aside0.mk (below_then (below_alloc (Below.refl _ _) _) (by simp) hB2)
            clear hB2 hn
            have z0 := blk_cell K2.out 0
            have z1 := blk_cell K2.out 1
            have z2 := blk_cell K2.out 2
            have z3 := blk_cell K2.out 3
            have z4 := blk_cell K2.out 4
            simp only [List.getElem?_toArray, List.getElem?_cons_zero, List.getElem?_cons_succ] at z0 z1 z2 z3 z4
            go_wp2_with fail
            refine (hf.out _ B2.out).mono ?_
            rintro e w3 ⟨rfl, hB3⟩
            have KB := Aside0.mk ((hB3.block _ (blk_lt K2.out)).trans K2.out)
            have BB := Aside0.mk (below_then B2.out (by have := B2.out.size; omega) hB3)
            clear hB3 hf K2 B2 z0 z1 z2 z3 z4
            have z0 := blk_cell KB.out 0
            have z1 := blk_cell KB.out 1
            have z2 := blk_cell KB.out 2
            have z3 := blk_cell KB.out 3
            have z4 := blk_cell KB.out 4
            simp only [List.getElem?_toArray, List.getElem?_cons_zero, List.getElem?_cons_succ] at z0 z1 z2 z3 z4
            go_wp2
            go_ret
            exact ⟨by rw [hr0.out]; rfl, BB.out⟩
        · have d2 : decide (a < 0) = true := decide_eq_true (by omega)
          have hr0 : Aside0 (r = false) := ⟨by rw [← hr1.out]; unfold fitsB; simp [g2]; try omega⟩
          clear hr1
          go_enter Try.func14, Try.ntmps14
          go_wp2_with fail
          refine (hn.out _ (below_alloc (Below.refl _ _) _)).mono ?_
          rintro e w2 ⟨v, rfl, hB2⟩
          have K2 := Aside0.mk ((hB2.block w.heap.size (by simp)).trans (blk_new w (.cells #[.slice A0 t.length c0, .slice A1 l.length c1, .int .i64 a, .int .i64 b, .int .i64 c] 25)))
          have B2 := Aside0.mk (below_then (below_alloc (Below.refl _ _) _) (by simp) hB2)
          clear hB2 hn
          have z0 := blk_cell K2.out 0
          have z1 := blk_cell K2.out 1
          have z2 := blk_cell K2.out 2
          have z3 := blk_cell K2.out 3
          have z4 := blk_cell K2.out 4
          simp only [List.getElem?_toArray, List.getElem?_cons_zero, List.getElem?_cons_succ] at z0 z1 z2 z3 z4
          go_wp2_with fail
          refine (hf.out _ B2.out).mono ?_
          rintro e w3 ⟨rfl, hB3⟩
          have KB := Aside0.mk ((hB3.block _ (blk_lt K2.out)).trans K2.out)
          have BB := Aside0.mk (below_then B2.out (by have := B2.out.size; omega) hB3)
          clear hB3 hf K2 B2 z0 z1 z2 z3 z4
          have z0 := blk_cell KB.out 0
          have z1 := blk_cell KB.out 1
          have z2 := blk_cell KB.out 2
          have z3 := blk_cell KB.out 3
          have z4 := blk_cell KB.out 4
          simp only [List.getElem?_toArray, List.getElem?_cons_zero, List.getElem?_cons_succ] at z0 z1 z2 z3 z4
          go_wp2
          go_ret
          exact ⟨by rw [hr0.out]; rfl, BB.out⟩
      · have d1 : decide ((2 : Int) < (l.length : Int)) = true := decide_eq_true (by omega)
        have hr0 : Aside0 (r = false) := ⟨by rw [← hr1.out]; unfold fitsB; simp [g1]; try omega⟩
        clear hr1
        go_enter Try.func14, Try.ntmps14
        go_wp2_with fail
        refine (hn.out _ (below_alloc (Below.refl _ _) _)).mono ?_
        rintro e w2 ⟨v, rfl, hB2⟩
        have K2 := Aside0.mk ((hB2.block w.heap.size (by simp)).trans (blk_new w (.cells #[.slice A0 t.length c0, .slice A1 l.length c1, .int .i64 a, .int .i64 b, .int .i64 c] 25)))
        have B2 := Aside0.mk (below_then (below_alloc (Below.refl _ _) _) (by simp) hB2)
        clear hB2 hn
        have z0 := blk_cell K2.out 0
        have z1 := blk_cell K2.out 1
        have z2 := blk_cell K2.out 2
        have z3 := blk_cell K2.out 3
        have z4 := blk_cell K2.out 4
        simp only [List.getElem?_toArray, List.getElem?_cons_zero, List.getElem?_cons_succ] at z0 z1 z2 z3 z4
        go_wp2_with fail
        refine (hf.out _ B2.out).mono ?_
        rintro e w3 ⟨rfl, hB3⟩
        have KB := Aside0.mk ((hB3.block _ (blk_lt K2.out)).trans K2.out)
        have BB := Aside0.mk (below_then B2.out (by have := B2.out.size; omega) hB3)
        clear hB3 hf K2 B2 z0 z1 z2 z3 z4
        have z0 := blk_cell KB.out 0
        have z1 := blk_cell KB.out 1
        have z2 := blk_cell KB.out 2
        have z3 := blk_cell KB.out 3
        have z4 := blk_cell KB.out 4
        simp only [List.getElem?_toArray, List.getElem?_cons_zero, List.getElem?_cons_succ] at z0 z1 z2 z3 z4
        go_wp2
        go_ret
        exact ⟨by rw [hr0.out]; rfl, BB.out⟩
    · have d0 : decide ((4 : Int) < (nf : Int)) = true := decide_eq_true (by omega)
      have hr0 : Aside0 (r = false) := ⟨by rw [← hr1.out]; unfold fitsB; simp [g0]; try omega⟩
      clear hr1
      go_enter Try.func14, Try.ntmps14
      go_wp2_with fail
      refine (hn.out _ (below_alloc (Below.refl _ _) _)).mono ?_
      rintro e w2 ⟨v, rfl, hB2⟩
      have K2 := Aside0.mk ((hB2.block w.heap.size (by simp)).trans (blk_new w (.cells #[.slice A0 t.length c0, .slice A1 l.length c1, .int .i64 a, .int .i64 b, .int .i64 c] 25)))
      have B2 := Aside0.mk (below_then (below_alloc (Below.refl _ _) _) (by simp) hB2)
      clear hB2 hn
      have z0 := blk_cell K2.out 0
      have z1 := blk_cell K2.out 1
      have z2 := blk_cell K2.out 2
      have z3 := blk_cell K2.out 3
      have z4 := blk_cell K2.out 4
      simp only [List.getElem?_toArray, List.getElem?_cons_zero, List.getElem?_cons_succ] at z0 z1 z2 z3 z4
      go_wp2_with fail
      refine (hf.out _ B2.out).mono ?_
      rintro e w3 ⟨rfl, hB3⟩
      have KB := Aside0.mk ((hB3.block _ (blk_lt K2.out)).trans K2.out)
      have BB := Aside0.mk (below_then B2.out (by have := B2.out.size; omega) hB3)
      clear hB3 hf K2 B2 z0 z1 z2 z3 z4
      have z0 := blk_cell KB.out 0
      have z1 := blk_cell KB.out 1
      have z2 := blk_cell KB.out 2
      have z3 := blk_cell KB.out 3
      have z4 := blk_cell KB.out 4
      simp only [List.getElem?_toArray, List.getElem?_cons_zero, List.getElem?_cons_succ] at z0 z1 z2 z3 z4
      go_wp2
      go_ret
      exact ⟨by rw [hr0.out]; rfl, BB.out⟩
def crossroadsref17_May.f (t : List S38) (l : List Int) (a b c : Int) : Option Bool := if (t.all fun x => decide (x.f0.size ≤ 140737488351232)) = true ∧ l.length ≤ 17592186043904 then some (mayR t l a b c) else none
theorem crossroadsref17_May.calls (A0_0 : Option Addr) (c0_0 : Nat) (l0_0 : List (S38)) (A0_1 : Option Addr) (c0_1 : Nat) (l0_1 : List Int) (a0_2 : Int) (a0_3 : Int) (a0_4 : Int) (r : Bool) (w : World) (hr0_0 : Kd.C k38 w A0_0 l0_0.length l0_0) (hc0_0 : l0_0.length ≤ c0_0) (hr0_1 : Kd.C (Kd.int .i64) w A0_1 l0_1.length l0_1) (hc0_1 : l0_1.length ≤ c0_1) (h : crossroadsref17_May.f l0_0 l0_1 a0_2 a0_3 a0_4 = some r) :
    Calls Try.prog 14 #[.agg #[.slice A0_0 l0_0.length c0_0, .slice A0_1 l0_1.length c0_1, .int .i64 a0_2, .int .i64 a0_3, .int .i64 a0_4]] w fun e w' => e = .returned (.bool r) ∧ Below w.heap.size w w' := by
  unfold crossroadsref17_May.f at h
  by_cases hz : (l0_0.all fun x => decide (x.f0.size ≤ 140737488351232)) = true ∧ l0_1.length ≤ 17592186043904
  · rw [if_pos hz] at h
    injection h with h
    rw [← h]
    exact rmay_walk A0_0 c0_0 l0_0 A0_1 c0_1 l0_1 a0_2 a0_3 a0_4 w hr0_0 hc0_0 hr0_1 hc0_1 (fun x hx => of_decide_eq_true (List.all_eq_true.1 hz.1 x hx)) hz.2
  · rw [if_neg hz] at h; cases h
end Go.Proofs.Ytmlnoapfhimgoaa.G
