/- class.May, walked by hand over the contracts of tree.New, Files, fits. -/
import Derived.Test.YtmlnoapfhimgoaaTreeEq
namespace Go.Proofs.Ytmlnoapfhimgoaa.G
set_option linter.unusedVariables false
set_option linter.unusedSimpArgs false
open Go.RowKit Go.Maps Go.Proofs.Ytmlnoapfhimgoaa.P Go.Proofs.Ytmlnoapfhimgoaa.Q Go.Proofs.Ytmlnoapfhimgoaa.Lem Go.Proofs.Ytmlnoapfhimgoaa.Tree Go.Proofs.YtmlnoapfhimgoaaW.PrintWords Go.Proofs.YtmlnoapfhimgoaaW.PrintLast Go.Proofs.YtmlnoapfhimgoaaW.PrintMore
def fitsB (a b : Int) : Bool := decide (0 ≤ a) && decide (a ≤ b)
theorem fits_f (a b : Int) : Q.class_fits.f a b = some (fitsB a b) := by
  unfold Q.class_fits.f fitsB
  by_cases h : 0 ≤ a
  · rw [if_pos h, decide_eq_true h, Bool.true_and]
  · rw [if_neg h, decide_eq_false h, Bool.false_and]
theorem fits_calls (a b : Int) (w : World) : Calls Try.prog 32 #[.int .i64 a, .int .i64 b] w fun e w' => e = .returned (.bool (fitsB a b)) ∧ Drawn0 w w' := Q.class_fits.calls a b _ w (fits_f a b)
/-- The places of files. -/
def filesFrom : List S38 → Int → List Int
  | [], _ => []
  | x :: r, i => if x.f1 = true then filesFrom r (i + 1) else i :: filesFrom r (i + 1)
def filesL (t : List S38) : List Int := filesFrom t 0
theorem filesFrom_le : ∀ (t : List S38) (i : Int), (filesFrom t i).length ≤ t.length
  | [], _ => Nat.le_refl _
  | x :: r, i => by
    unfold filesFrom
    have := filesFrom_le r (i + 1)
    split <;> simp <;> omega
theorem files_l0 (t : List S38) (hz : t.length ≤ 4398046511104) : ∀ (d : List S38) (acc : List Int) (i : Nat), t.drop i = d → acc.length ≤ i → i + d.length = t.length → Ev (fun k => Q.class_Files.l0 k acc t (t.length : Int) (i : Int)) (acc ++ filesFrom d i)
  | [], acc, i, h, ha, hi => by
    refine Ev.step (f := fun _ => some acc) (fun k => ?_) (by rw [filesFrom, List.append_nil]; exact Ev.now _)
    rw [Q.class_Files.l0, if_neg (by simp at hi; omega)]
  | x :: d, acc, i, h, ha, hi => by
    have hlt : i < t.length := by simp at hi; omega
    have hd : t.drop (i + 1) = d := by rw [List.drop_eq_getElem_cons hlt] at h; injection h
    have hx : rd_T38 t (i : Int) = x := by
      rw [List.drop_eq_getElem_cons hlt] at h
      injection h with h _
      unfold rd_T38
      rw [List.getD_eq_getElem?_getD, Int.toNat_natCast, List.getElem?_eq_getElem hlt]
      exact h
    have hw : wrap64 ((i : Int) + 1) = ((i + 1 : Nat) : Int) := by unfold wrap64; omega
    rw [filesFrom]
    by_cases hf : x.f1 = true
    · rw [if_pos hf]
      refine Ev.step (fun k => ?_) (files_l0 t hz d acc (i + 1) hd (by omega) (by simp at hi; omega))
      rw [Q.class_Files.l0, if_pos (by omega), if_pos (by omega), if_pos (by omega), hx, if_pos hf, hw]
    · rw [if_neg hf]
      have := files_l0 t hz d (acc ++ [(i : Int)]) (i + 1) hd (by rw [List.length_append]; simp; omega) (by simp at hi; omega)
      rw [List.append_assoc] at this
      refine Ev.step (fun k => ?_) this
      rw [Q.class_Files.l0, if_pos (by omega), if_pos (by omega), if_pos (by omega), hx, if_neg hf, if_pos (by omega), hw]
theorem files_is (t : List S38) (l : List Int) (a b c : Int) (hz : t.length ≤ 4398046511104) : Ev (fun k => Q.class_Files.f k t l a b c) (filesL t) := by
  have := files_l0 t hz t [] 0 rfl (Nat.le_refl _) (by simp)
  exact this
def okT (x : S38) : Bool := fitsB x.f2 3 && !(x.f1 && x.f2 != 0)
def mayC (t : List S38) (l : List Int) (a b c : Int) : Bool := treeB t && decide ((filesL t).length ≤ 4) && decide (l.length ≤ 2) && (t.all okT && (l.all (fun n => fitsB n 3) && (fitsB a 6 && (fitsB b a && fitsB c 400))))
theorem all_drop38 {l : List S38} {i : Int} (f : S38 → Bool) (h0 : 0 ≤ i) (h1 : i < l.length) : (l.drop i.toNat).all f = (f (rd_T38 l i) && (l.drop (i + 1).toNat).all f) := by
  have hlt : i.toNat < l.length := by omega
  rw [List.drop_eq_getElem_cons hlt, List.all_cons, show (i + 1).toNat = i.toNat + 1 by omega]
  have : rd_T38 l i = l[i.toNat] := by unfold rd_T38; rw [List.getD_eq_getElem?_getD, List.getElem?_eq_getElem hlt]; rfl
  rw [this]
theorem all_dropI {l : List Int} {i : Int} (f : Int → Bool) (h0 : 0 ≤ i) (h1 : i < l.length) : (l.drop i.toNat).all f = (f (rd l i) && (l.drop (i + 1).toNat).all f) := by
  have hlt : i.toNat < l.length := by omega
  rw [List.drop_eq_getElem_cons hlt, List.all_cons, show (i + 1).toNat = i.toNat + 1 by omega]
  have : rd l i = l[i.toNat] := by unfold rd; rw [List.getD_eq_getElem?_getD, List.getElem?_eq_getElem hlt]; rfl
  rw [this]
set_option maxHeartbeats 8000000 in
set_option maxRecDepth 100000 in
theorem may_walk (A0 : Option Addr) (c0 : Nat) (t : List S38) (A1 : Option Addr) (c1 : Nat) (l : List Int) (a b c : Int) (w : World) (hr0 : Kd.C k38 w A0 t.length t) (hc0 : t.length ≤ c0) (hr1 : Kd.C (Kd.int .i64) w A1 l.length l) (hc1 : l.length ≤ c1) (hz : ∀ x ∈ t, x.f0.size ≤ 140737488351232) :
    Calls Try.prog 13 #[.agg #[.slice A0 t.length c0, .slice A1 l.length c1, .int .i64 a, .int .i64 b, .int .i64 c]] w fun e w' => e = .returned (.bool (mayC t l a b c)) ∧ Below w.heap.size w w' := by
  have hl0 := hr0.2.1
  have hl1 := hr1.2.1
  have HR0 := Aside0.mk hr0
  have HR1 := Aside0.mk hr1
  have hnew := fun W (hb : Below w.heap.size w W) => new_calls A0 c0 t W (Kd.C_below hr0 hb) hc0 hz
  clear hr0 hr1 hz
  obtain ⟨r, hr⟩ : ∃ r, mayC t l a b c = r := ⟨_, rfl⟩
  rw [hr]
  have HRr := Aside0.mk hr
  clear hr
  cases ht : treeB t
  · rw [ht] at hnew
    have hn := Aside0.mk hnew
    have hr0 : Aside0 (r = false) := ⟨by rw [← HRr.out]; unfold mayC; rw [ht]; rfl⟩
    clear hnew ht HRr
    go_enter Try.func13, Try.ntmps13
    go_wp2_with fail
    refine (hn.out _ (below_alloc (Below.refl _ _) _)).mono ?_
    rintro e w2 ⟨v, rfl, hB2⟩
    have hB2A := Aside0.mk (below_then (below_alloc (Below.refl _ _) _) (by simp) hB2)
    have hcd : codeI false = 11 := rfl
    clear hB2
    rw [hcd]
    go_wp2
    go_ret
    exact ⟨by rw [hr0.out]; rfl, hB2A.out⟩
  · rw [ht] at hnew
    have hn := Aside0.mk hnew
    have h8 : t.length ≤ 8 := by
      unfold treeB at ht
      rw [Bool.and_eq_true] at ht
      exact of_decide_eq_true ht.1
    obtain ⟨kf, hkf⟩ := (files_is t l a b c (by omega)).rounds
    have hfc := fun W (hb : Below w.heap.size w W) => Q.class_Files.calls kf A0 c0 t A1 c1 l a b c (filesL t) W (Kd.C_below HR0.out hb) hc0 (Kd.C_below HR1.out hb) hc1 hkf
    have hf := Aside0.mk hfc
    have hr1 : Aside0 ((decide ((filesL t).length ≤ 4) && decide (l.length ≤ 2) && (t.all okT && (l.all (fun n => fitsB n 3) && (fitsB a 6 && (fitsB b a && fitsB c 400))))) = r) := ⟨by rw [← HRr.out]; unfold mayC; rw [ht, Bool.true_and]⟩
    have hcd : codeI true = 0 := rfl
    clear hnew ht HRr hkf hfc
    rw [hcd] at hn
    clear hcd
    by_cases hf4 : (filesL t).length ≤ 4
    · by_cases hl2 : l.length ≤ 2
      · have hr2 : Aside0 (((t.drop (0 : Int).toNat).all okT && (l.all (fun n => fitsB n 3) && (fitsB a 6 && (fitsB b a && fitsB c 400)))) = r) := ⟨by rw [← hr1.out, decide_eq_true hf4, decide_eq_true hl2]; rfl⟩
        clear hr1
        go_enter Try.func13, Try.ntmps13
        go_wp2_with fail
        refine (hn.out _ (below_alloc (Below.refl _ _) _)).mono ?_
        rintro e w2 ⟨v, rfl, hB2⟩
        have K2 := Aside0.mk ((hB2.block w.heap.size (by simp)).trans (blk_new w (.cells #[.slice A0 t.length c0, .slice A1 l.length c1, .int .i64 a, .int .i64 b, .int .i64 c] 25)))
        have B2 := Aside0.mk (below_then (below_alloc (Below.refl _ _) _) (by simp) hB2)
        clear hB2 hn
        have z0 := blk_cell K2.out 0
        have z1 := blk_cell K2.out 1
        have z2 := blk_cell K2.out 2
        have z3 := blk_cell K2.out 3
        have z4 := blk_cell K2.out 4
        simp only [List.getElem?_toArray, List.getElem?_cons_zero, List.getElem?_cons_succ] at z0 z1 z2 z3 z4
        have b3 : decide ((2 : Int) < (l.length : Int)) = false := decide_eq_false (by omega)
        have b4 : decide ((4 : Int) < ((filesL t).length : Int)) = false := decide_eq_false (by omega)
        go_wp2_with fail
        refine (hf.out _ B2.out).mono ?_
        rintro e w3 ⟨vf, rfl, hRf, hB3⟩
        obtain ⟨Af, cf, rfl⟩ := Kd.R_slice hRf
        have KB := Aside0.mk ((hB3.block _ (blk_lt K2.out)).trans K2.out)
        have BB := Aside0.mk (below_then B2.out (by have := B2.out.size; omega) hB3)
        clear hB3 hRf hf K2 B2 z0 z1 z2 z3 z4
        have z0 := blk_cell KB.out 0
        have z1 := blk_cell KB.out 1
        have z2 := blk_cell KB.out 2
        have z3 := blk_cell KB.out 3
        have z4 := blk_cell KB.out 4
        simp only [List.getElem?_toArray, List.getElem?_cons_zero, List.getElem?_cons_succ] at z0 z1 z2 z3 z4
        go_wp2
        go_loopg [6, 32] t.length (fun kq v6 v32 w' => ∃ (i : Int), v32 = .int .i64 i ∧ Aside0 (0 ≤ i ∧ (kq : Int) + i = t.length) ∧ Aside0 (((t.drop i.toNat).all okT && (l.all (fun n => fitsB n 3) && (fitsB a 6 && (fitsB b a && fitsB c 400)))) = r) ∧ Aside0 (w'.heap[w.heap.size]? = some (.cells #[.slice A0 t.length c0, .slice A1 l.length c1, .int .i64 a, .int .i64 b, .int .i64 c] 25 (0, 0))) ∧ Aside0 (Below w.heap.size w w'))
        case atStart => exact ⟨0, rfl, ⟨by simp⟩, hr2, KB, BB⟩
        case round =>
          clear hr2 KB BB
          obtain ⟨i, rfl, HI, HN, KB, HB⟩ := hrel
          have hI := HI.out
          by_cases hlt : i < (t.length : Int)
          · have hw1 : wrap64 (i + 1) = i + 1 := by unfold wrap64; omega
            obtain ⟨k1, rfl⟩ : ∃ k1, gk = k1 + 1 := ⟨gk - 1, by omega⟩
            have hN := HN.out
            rw [all_drop38 okT hI.1 hlt] at hN
            obtain ⟨ad, ea, x0, x1, x2⟩ := at_T38 HR0.out i hI.1 hlt
            obtain ⟨e, hE⟩ : ∃ e, rd_T38 t i = e := ⟨_, rfl⟩
            rw [hE] at hN x0 x1 x2
            obtain ⟨ep, ed, ec⟩ := e
            rw [show okT ⟨ep, ed, ec⟩ = (fitsB ec 3 && !(ed && ec != 0)) from rfl] at hN
            simp only at x0 x1 x2
            cases ea
            replace x0 := (HB.out.cell (World.block_lt_of_cell? w _ x0)).trans x0
            replace x1 := (HB.out.cell (World.block_lt_of_cell? w _ x1)).trans x1
            replace x2 := (HB.out.cell (World.block_lt_of_cell? w _ x2)).trans x2
            have pi : 0 ≤ i ∧ i < (t.length : Int) := ⟨hI.1, hlt⟩
            clear hE
            have hft := fits_calls ec 3
            generalize hq : fitsB ec 3 = q at hft hN
            have hfA := Aside0.mk hft
            clear hft hq
            cases q
            · have hr0 : Aside0 (r = false) := ⟨by rw [← hN]; rfl⟩
              clear hN HN
              go_wp2_with fail
              refine (hfA.out _).mono ?_
              rintro e w2 ⟨rfl, ⟨nd, rfl⟩⟩
              go_wp2
              go_ret
              exact ⟨by rw [hr0.out]; rfl, pw_below_drewN (below_alloc HB.out _) nd⟩
            · cases ed
              · have hn1 : Aside0 (((t.drop (i + 1).toNat).all okT && (l.all (fun n => fitsB n 3) && (fitsB a 6 && (fitsB b a && fitsB c 400)))) = r) := ⟨by rw [← hN]; simp⟩
                clear hN HN
                go_wp2_with fail
                refine (hfA.out _).mono ?_
                rintro e w2 ⟨rfl, ⟨nd, rfl⟩⟩
                go_wp2
                go_roundg k1
                case measure => omega
                case rel => exact ⟨i + 1, rfl, ⟨by omega⟩, hn1, ⟨blk_drewN (blk_alloc KB.out _) nd⟩, ⟨pw_below_drewN (below_alloc HB.out _) nd⟩⟩
              · by_cases he : ec = 0
                · subst he
                  have hn1 : Aside0 (((t.drop (i + 1).toNat).all okT && (l.all (fun n => fitsB n 3) && (fitsB a 6 && (fitsB b a && fitsB c 400)))) = r) := ⟨by rw [← hN]; simp⟩
                  clear hN HN
                  go_wp2_with fail
                  refine (hfA.out _).mono ?_
                  rintro e w2 ⟨rfl, ⟨nd, rfl⟩⟩
                  go_wp2
                  go_roundg k1
                  case measure => omega
                  case rel => exact ⟨i + 1, rfl, ⟨by omega⟩, hn1, ⟨blk_drewN (blk_alloc KB.out _) nd⟩, ⟨pw_below_drewN (below_alloc HB.out _) nd⟩⟩
                · have hb1 : (ec != 0) = true := bne_iff_ne.mpr he
                  have hr0 : Aside0 (r = false) := ⟨by rw [← hN, hb1]; rfl⟩
                  clear hN HN he
                  go_wp2_with fail
                  refine (hfA.out _).mono ?_
                  rintro e w2 ⟨rfl, ⟨nd, rfl⟩⟩
                  go_wp2
                  go_ret
                  exact ⟨by rw [hr0.out]; rfl, pw_below_drewN (below_alloc HB.out _) nd⟩
          · have hr3 : Aside0 (((l.drop (0 : Int).toNat).all (fun n => fitsB n 3) && (fitsB a 6 && (fitsB b a && fitsB c 400))) = r) := ⟨by
              have := HN.out
              rw [List.drop_of_length_le (show t.length ≤ i.toNat by omega)] at this
              rw [← this]; rfl⟩
            clear HN
            have z0 := blk_cell KB.out 0
            have z1 := blk_cell KB.out 1
            have z2 := blk_cell KB.out 2
            have z3 := blk_cell KB.out 3
            have z4 := blk_cell KB.out 4
            simp only [List.getElem?_toArray, List.getElem?_cons_zero, List.getElem?_cons_succ] at z0 z1 z2 z3 z4
            go_wp2
            have KBo := KB
            have HBo := HB
            rename World => wz
            go_loopg [8, 53] l.length (fun kq v8 v53 w' => ∃ (j : Int), v53 = .int .i64 j ∧ Aside0 (0 ≤ j ∧ (kq : Int) + j = l.length) ∧ Aside0 (((l.drop j.toNat).all (fun n => fitsB n 3) && (fitsB a 6 && (fitsB b a && fitsB c 400))) = r) ∧ Aside0 (w'.heap[w.heap.size]? = some (.cells #[.slice A0 t.length c0, .slice A1 l.length c1, .int .i64 a, .int .i64 b, .int .i64 c] 25 (0, 0))) ∧ Aside0 (Below w.heap.size w w'))
            case atStart => exact ⟨0, rfl, ⟨by simp⟩, hr3, KB, HB⟩
            case round =>
              clear hr3 KBo HBo
              try clear z0 z1 z2 z3 z4
              clear KB HB
              obtain ⟨j, rfl, HJ, HM, KB, HB⟩ := hrel
              have hJ := HJ.out
              by_cases hjl : j < (l.length : Int)
              · have hw2 : wrap64 (j + 1) = j + 1 := by unfold wrap64; omega
                obtain ⟨k2, rfl⟩ : ∃ k2, gk = k2 + 1 := ⟨gk - 1, by omega⟩
                have hM := HM.out
                rw [all_dropI (fun n => fitsB n 3) hJ.1 hjl] at hM
                obtain ⟨ay, ey, hy⟩ := Kd.at_int (Kd.C_below HR1.out HB.out) j hJ.1 hjl
                obtain ⟨y, hyy⟩ : ∃ y, rd l j = y := ⟨_, rfl⟩
                rw [hyy] at hM hy
                cases ey
                have pj : 0 ≤ j ∧ j < (l.length : Int) := ⟨hJ.1, hjl⟩
                have hft := fits_calls y 3
                try simp only at hM
                generalize hq : fitsB y 3 = q at hft hM
                have hfA := Aside0.mk hft
                clear hft hq hyy
                cases q
                · have hr0 : Aside0 (r = false) := ⟨by rw [← hM]; rfl⟩
                  clear hM HM
                  go_wp2_with fail
                  refine (hfA.out _).mono ?_
                  rintro e w2 ⟨rfl, ⟨nd, rfl⟩⟩
                  go_wp2
                  go_ret
                  exact ⟨by rw [hr0.out]; rfl, pw_below_drewN HB.out nd⟩
                · have hn1 : Aside0 (((l.drop (j + 1).toNat).all (fun n => fitsB n 3) && (fitsB a 6 && (fitsB b a && fitsB c 400))) = r) := ⟨by rw [← hM]; simp⟩
                  clear hM HM
                  go_wp2_with fail
                  refine (hfA.out _).mono ?_
                  rintro e w2 ⟨rfl, ⟨nd, rfl⟩⟩
                  go_wp2
                  go_roundg k2
                  case measure => omega
                  case rel => exact ⟨j + 1, rfl, ⟨by omega⟩, hn1, ⟨blk_drewN KB.out nd⟩, ⟨pw_below_drewN HB.out nd⟩⟩
              · have hr4 : Aside0 ((fitsB a 6 && (fitsB b a && fitsB c 400)) = r) := ⟨by
                  have := HM.out
                  rw [List.drop_of_length_le (show l.length ≤ j.toNat by omega)] at this
                  rw [← this]; rfl⟩
                clear HM
                have z0 := blk_cell KB.out 0
                have z1 := blk_cell KB.out 1
                have z2 := blk_cell KB.out 2
                have z3 := blk_cell KB.out 3
                have z4 := blk_cell KB.out 4
                simp only [List.getElem?_toArray, List.getElem?_cons_zero, List.getElem?_cons_succ] at z0 z1 z2 z3 z4
                have h1 := fits_calls a 6
                have h2 := fits_calls b a
                have h3 := fits_calls c 400
                have hr5 := hr4.out
                generalize fitsB a 6 = q1 at h1 hr5
                generalize fitsB b a = q2 at h2 hr5
                generalize fitsB c 400 = q3 at h3 hr5
                have H1 := Aside0.mk h1
                have H2 := Aside0.mk h2
                have H3 := Aside0.mk h3
                have H5 := Aside0.mk hr5
                clear h1 h2 h3 hr4 hr5
                cases q1
                · have hr0 : Aside0 (r = false) := ⟨by rw [← H5.out]; rfl⟩
                  go_wp2_with fail
                  refine (H1.out _).mono ?_
                  rintro e w2 ⟨rfl, ⟨nd, rfl⟩⟩
                  go_wp2
                  go_ret
                  exact ⟨by rw [hr0.out]; rfl, pw_below_drewN HB.out nd⟩
                · cases q2
                  · have hr0 : Aside0 (r = false) := ⟨by rw [← H5.out]; rfl⟩
                    go_wp2_with fail
                    refine (H1.out _).mono ?_
                    rintro e w2 ⟨rfl, ⟨nd, rfl⟩⟩
                    go_wp2_with fail
                    refine (H2.out _).mono ?_
                    rintro e w3 ⟨rfl, ⟨ne, rfl⟩⟩
                    go_wp2
                    go_ret
                    exact ⟨by rw [hr0.out]; rfl, pw_below_drewN HB.out _⟩
                  · have hr0 : Aside0 (r = q3) := ⟨by rw [← H5.out]; rfl⟩
                    go_wp2_with fail
                    refine (H1.out _).mono ?_
                    rintro e w2 ⟨rfl, ⟨nd, rfl⟩⟩
                    go_wp2_with fail
                    refine (H2.out _).mono ?_
                    rintro e w3 ⟨rfl, ⟨ne, rfl⟩⟩
                    go_wp2_with fail
                    refine (H3.out _).mono ?_
                    rintro e w4 ⟨rfl, ⟨nf, rfl⟩⟩
                    go_wp2
                    go_ret
                    exact ⟨by rw [hr0.out]; rfl, pw_below_drewN HB.out _⟩
      · have hr0 : Aside0 (r = false) := ⟨by rw [← hr1.out, decide_eq_false hl2, Bool.and_false]; rfl⟩
        have b3 : decide ((2 : Int) < (l.length : Int)) = true := decide_eq_true (by omega)
        have b4 : decide ((4 : Int) < ((filesL t).length : Int)) = false := decide_eq_false (by omega)
        go_enter Try.func13, Try.ntmps13
        go_wp2_with fail
        refine (hn.out _ (below_alloc (Below.refl _ _) _)).mono ?_
        rintro e w2 ⟨v, rfl, hB2⟩
        have K2 := Aside0.mk ((hB2.block w.heap.size (by simp)).trans (blk_new w (.cells #[.slice A0 t.length c0, .slice A1 l.length c1, .int .i64 a, .int .i64 b, .int .i64 c] 25)))
        have B2 := Aside0.mk (below_then (below_alloc (Below.refl _ _) _) (by simp) hB2)
        clear hB2 hn
        have z0 := blk_cell K2.out 0
        have z1 := blk_cell K2.out 1
        have z2 := blk_cell K2.out 2
        have z3 := blk_cell K2.out 3
        have z4 := blk_cell K2.out 4
        simp only [List.getElem?_toArray, List.getElem?_cons_zero, List.getElem?_cons_succ] at z0 z1 z2 z3 z4
        go_wp2_with fail
        refine (hf.out _ B2.out).mono ?_
        rintro e w3 ⟨vf, rfl, hRf, hB3⟩
        obtain ⟨Af, cf, rfl⟩ := Kd.R_slice hRf
        have KB := Aside0.mk ((hB3.block _ (blk_lt K2.out)).trans K2.out)
        have BB := Aside0.mk (below_then B2.out (by have := B2.out.size; omega) hB3)
        clear hB3 hRf hf K2 B2 z0 z1 z2 z3 z4
        have z0 := blk_cell KB.out 0
        have z1 := blk_cell KB.out 1
        have z2 := blk_cell KB.out 2
        have z3 := blk_cell KB.out 3
        have z4 := blk_cell KB.out 4
        simp only [List.getElem?_toArray, List.getElem?_cons_zero, List.getElem?_cons_succ] at z0 z1 z2 z3 z4
        go_wp2
        go_ret
        exact ⟨by rw [hr0.out]; rfl, BB.out⟩
    · have hr0 : Aside0 (r = false) := ⟨by rw [← hr1.out, decide_eq_false hf4]; rfl⟩
      have b4 : decide ((4 : Int) < ((filesL t).length : Int)) = true := decide_eq_true (by omega)
      go_enter Try.func13, Try.ntmps13
      go_wp2_with fail
      refine (hn.out _ (below_alloc (Below.refl _ _) _)).mono ?_
      rintro e w2 ⟨v, rfl, hB2⟩
      have K2 := Aside0.mk ((hB2.block w.heap.size (by simp)).trans (blk_new w (.cells #[.slice A0 t.length c0, .slice A1 l.length c1, .int .i64 a, .int .i64 b, .int .i64 c] 25)))
      have B2 := Aside0.mk (below_then (below_alloc (Below.refl _ _) _) (by simp) hB2)
      clear hB2 hn
      have z0 := blk_cell K2.out 0
      have z1 := blk_cell K2.out 1
      have z2 := blk_cell K2.out 2
      have z3 := blk_cell K2.out 3
      have z4 := blk_cell K2.out 4
      simp only [List.getElem?_toArray, List.getElem?_cons_zero, List.getElem?_cons_succ] at z0 z1 z2 z3 z4
      go_wp2_with fail
      refine (hf.out _ B2.out).mono ?_
      rintro e w3 ⟨vf, rfl, hRf, hB3⟩
      obtain ⟨Af, cf, rfl⟩ := Kd.R_slice hRf
      have KB := Aside0.mk ((hB3.block _ (blk_lt K2.out)).trans K2.out)
      have BB := Aside0.mk (below_then B2.out (by have := B2.out.size; omega) hB3)
      clear hB3 hRf hf K2 B2 z0 z1 z2 z3 z4
      have z0 := blk_cell KB.out 0
      have z1 := blk_cell KB.out 1
      have z2 := blk_cell KB.out 2
      have z3 := blk_cell KB.out 3
      have z4 := blk_cell KB.out 4
      simp only [List.getElem?_toArray, List.getElem?_cons_zero, List.getElem?_cons_succ] at z0 z1 z2 z3 z4
      go_wp2
      go_ret
      exact ⟨by rw [hr0.out]; rfl, BB.out⟩
def class_May.f (t : List S38) (l : List Int) (a b c : Int) : Option Bool := if (t.all fun x => decide (x.f0.size ≤ 140737488351232)) = true then some (mayC t l a b c) else none
theorem class_May.calls (A0_0 : Option Addr) (c0_0 : Nat) (l0_0 : List (S38)) (A0_1 : Option Addr) (c0_1 : Nat) (l0_1 : List Int) (a0_2 : Int) (a0_3 : Int) (a0_4 : Int) (r : Bool) (w : World) (hr0_0 : Kd.C k38 w A0_0 l0_0.length l0_0) (hc0_0 : l0_0.length ≤ c0_0) (hr0_1 : Kd.C (Kd.int .i64) w A0_1 l0_1.length l0_1) (hc0_1 : l0_1.length ≤ c0_1) (h : class_May.f l0_0 l0_1 a0_2 a0_3 a0_4 = some r) :
    Calls Try.prog 13 #[.agg #[.slice A0_0 l0_0.length c0_0, .slice A0_1 l0_1.length c0_1, .int .i64 a0_2, .int .i64 a0_3, .int .i64 a0_4]] w fun e w' => e = .returned (.bool r) ∧ Below w.heap.size w w' := by
  unfold class_May.f at h
  by_cases hz : (l0_0.all fun x => decide (x.f0.size ≤ 140737488351232)) = true
  · rw [if_pos hz] at h
    injection h with h
    rw [← h]
    exact may_walk A0_0 c0_0 l0_0 A0_1 c0_1 l0_1 a0_2 a0_3 a0_4 w hr0_0 hc0_0 hr0_1 hc0_1 (fun x hx => of_decide_eq_true (List.all_eq_true.1 hz x hx))
  · rw [if_neg hz] at h; cases h
end Go.Proofs.Ytmlnoapfhimgoaa.G
