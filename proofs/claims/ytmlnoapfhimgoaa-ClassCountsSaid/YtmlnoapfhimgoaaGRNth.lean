/- The reference's Nth, walked by hand over the contracts of what it calls. -/
import Derived.Test.YtmlnoapfhimgoaaRefC
namespace Go.Proofs.Ytmlnoapfhimgoaa.G
set_option linter.unusedVariables false
set_option linter.unusedSimpArgs false
open Go.RowKit Go.Maps Go.Proofs.Ytmlnoapfhimgoaa.Lem Go.Proofs.Ytmlnoapfhimgoaa.Tree Go.Proofs.Ytmlnoapfhimgoaa.Cls Go.Proofs.YtmlnoapfhimgoaaW.PrintWords Go.Proofs.YtmlnoapfhimgoaaW.PrintLast Go.Proofs.YtmlnoapfhimgoaaW.PrintMore
open Go.Proofs.Ytmlnoapfhimgoaa.P (S38 k38 rd_T38 at_T38)
theorem noneB_ge (t : List S38) (l : List Int) (a b c n : Int) (hm : countC t l a b c ≤ 1099511627776) : noneB t l a b c n = (decide (n < 0) || (decide (countC t l a b c ≤ n) || decide (1099511627776 ≤ countC t l a b c))) := by
  unfold noneB
  congr 2
  exact decide_eq_decide.2 (by omega)
theorem S_R_ {α : Type} {d : Kd α} {e : Nat} {W : World} {base : Nat} {ok : Nat → Prop} {v : Value} {xs : List α} (h : Kd.S d e W base ok v xs) : Kd.R d e W base ok v xs := Kd.S_R h
theorem countC_le (t : List S38) (l : List Int) (a b c : Int) : countC t l a b c ≤ 1099511627776 := by
  unfold countC
  split
  · rename_i hm
    obtain ⟨_, _, _, b4, b5, _⟩ := may_bounds hm
    have := ways_is (b := b) b4 (by omega)
    exact cnt_le 0 (by omega) _ _ (by omega)
  · omega
set_option maxHeartbeats 8000000 in
set_option maxRecDepth 100000 in
theorem rnth_none (A0 : Option Addr) (c0 : Nat) (t : List S38) (A1 : Option Addr) (c1 : Nat) (l : List Int) (a b c n : Int) (w : World) (hr0 : Kd.C k38 w A0 t.length t) (hc0 : t.length ≤ c0) (hr1 : Kd.C (Kd.int .i64) w A1 l.length l) (hc1 : l.length ≤ c1) (hz : sizesB t = true) (hll : l.length ≤ 17592186043904) (hn : noneB t l a b c n = true) :
    Calls Try.prog 12 #[.agg #[.slice A0 t.length c0, .slice A1 l.length c1, .int .i64 a, .int .i64 b, .int .i64 c], .int .i64 n] w fun e w' => NthP w ([], [], [], false) e w' := by
  obtain ⟨kc, hkc⟩ := (rcount_is t l a b c hz hll).rounds
  have hcount := fun W (hb : Below w.heap.size w W) => P.crossroadsref17_Count.calls kc A0 c0 t A1 c1 l a b c (countC t l a b c) W (Kd.C_below hr0 hb) hc0 (Kd.C_below hr1 hb) hc1 hkc
  rw [noneB_ge t l a b c n (countC_le t l a b c)] at hn
  generalize countC t l a b c = m at hn hcount
  have HC := Aside0.mk hcount
  clear hcount hkc hr0 hr1 hz
  have fin : ∀ w2, Below w.heap.size w w2 → NthP w ([], [], [], false) (.returned (.tuple #[.agg #[.slice none 0 0, .slice none 0 0, .slice none 0 0], .bool false])) w2 := fun w2 hb => ⟨_, _, _, rfl, Kd.V_nil _ _ _ _ _, Kd.V_nil _ _ _ _ _, Kd.V_nil _ _ _ _ _, hb⟩
  have FIN := Aside0.mk fin
  clear fin
  have hcs : (decide (n < 0) = true) ∨ (decide (n < 0) = false ∧ decide (m ≤ n) = true) ∨ (decide (n < 0) = false ∧ decide (m ≤ n) = false ∧ decide (1099511627776 ≤ m) = true) := by
    cases h1 : decide (n < 0)
    · cases h2 : decide (m ≤ n)
      · rw [h1, h2] at hn
        refine .inr (.inr ⟨rfl, rfl, ?_⟩)
        simpa using hn
      · exact .inr (.inl ⟨rfl, rfl⟩)
    · exact .inl rfl
  clear hn
  rcases hcs with h1 | ⟨h1, h2⟩ | ⟨h1, h2, h3⟩
  all_goals
    go_enter Try.func12, Try.ntmps12
    go_wp2_with fail
    refine (HC.out _ (below_alloc (below_alloc (Below.refl _ _) _) _)).mono ?_
    rintro e w2 ⟨rfl, hB2⟩
    have K4 := Aside0.mk ((hB2.block (w.heap.size + 1) (by simp)).trans (blk_new2 w _ (.cells #[.slice none 0 0, .slice none 0 0, .slice none 0 0] 31)))
    have B2 := Aside0.mk (below_then (below_alloc (below_alloc (Below.refl _ _) _) _) (by simp; omega) hB2)
    clear hB2 HC
    have z0 := blk_cell K4.out 0
    have z1 := blk_cell K4.out 1
    have z2 := blk_cell K4.out 2
    have f0 := blk_frozen K4.out 0
    have f1 := blk_frozen K4.out 1
    have f2 := blk_frozen K4.out 2
    simp only [List.getElem?_toArray, List.getElem?_cons_zero, List.getElem?_cons_succ] at z0 z1 z2
    have y0 := blk_cell (blk_set K4.out 0 (.slice none 0 0)) 0
    have y1 := blk_cell (blk_set (blk_set K4.out 0 (.slice none 0 0)) 1 (.slice none 0 0)) 1
    have y2 := blk_cell (blk_set (blk_set (blk_set K4.out 0 (.slice none 0 0)) 1 (.slice none 0 0)) 2 (.slice none 0 0)) 2
    have Y0 := Aside0.mk (y0.trans rfl)
    have Y1 := Aside0.mk (y1.trans rfl)
    have Y2 := Aside0.mk (y2.trans rfl)
    clear y0 y1 y2
    go_wp2
    have y0 : _ = some (Value.slice none 0 0) := Y0.out
    have y1 : _ = some (Value.slice none 0 0) := Y1.out
    have y2 : _ = some (Value.slice none 0 0) := Y2.out
    refine bodyPost_ret (v := .tuple #[.agg #[.slice none 0 0, .slice none 0 0, .slice none 0 0], .bool false]) (by simp [results, Try.results12, y0, y1, y2, go_sem]) rfl (FIN.out _ ?_)
    exact (((B2.out.setCell (p := ⟨w.heap.size + 1, 0, none⟩) (by simp) _).setCell (p := ⟨w.heap.size + 1, 1, none⟩) (by simp) _).setCell (p := ⟨w.heap.size + 1, 2, none⟩) (by simp) _)
set_option maxHeartbeats 16000000 in
set_option maxRecDepth 100000 in
theorem rnth_some (A0 : Option Addr) (c0 : Nat) (t : List S38) (A1 : Option Addr) (c1 : Nat) (l : List Int) (a b c n : Int) (w : World) (hr0 : Kd.C k38 w A0 t.length t) (hc0 : t.length ≤ c0) (hr1 : Kd.C (Kd.int .i64) w A1 l.length l) (hc1 : l.length ≤ c1) (hz : sizesB t = true) (hll : l.length ≤ 17592186043904) (hn : noneB t l a b c n = false) :
    Calls Try.prog 12 #[.agg #[.slice A0 t.length c0, .slice A1 l.length c1, .int .i64 a, .int .i64 b, .int .i64 c], .int .i64 n] w fun e w' => NthP w (nthC t l a b c n) e w' := by
  obtain ⟨hm, hn0, hn1, hn2⟩ := nth_facts hn
  obtain ⟨b1, b2, b3, b4, b5, b6, b7, _⟩ := may_bounds hm
  have hcl := @caps_len t l
  have hways := ways_is (b := b) b4 (by omega)
  obtain ⟨kc, hkc⟩ := (rcount_is t l a b c hz hll).rounds
  have HC := Aside0.mk (fun W (hb : Below w.heap.size w W) => P.crossroadsref17_Count.calls kc A0 c0 t A1 c1 l a b c (countC t l a b c) W (Kd.C_below hr0 hb) hc0 (Kd.C_below hr1 hb) hc1 hkc)
  obtain ⟨kp, hkp⟩ := (caps_is t l a b c (by omega) (by omega)).rounds
  have HP := Aside0.mk (fun W (hb : Below w.heap.size w W) => Q.crossroadsref17_Caps.calls kp A0 c0 t A1 c1 l a b c (capsC t l) W (Kd.C_below hr0 hb) hc0 (Kd.C_below hr1 hb) hc1 hkp)
  obtain ⟨kf, hkf⟩ := (rfiles_is t l a b c (by omega) (by omega)).rounds
  have HF := Aside0.mk (fun W (hb : Below w.heap.size w W) => Q.crossroadsref17_files.calls kf A0 c0 t A1 c1 l a b c ((filesL t).length : Int) W (Kd.C_below hr0 hb) hc0 (Kd.C_below hr1 hb) hc1 hkf)
  have hmod : 0 ≤ n % waysC a b ∧ n % waysC a b < waysC a b := ⟨Int.emod_nonneg _ (by omega), Int.emod_lt_of_pos _ (by omega)⟩
  obtain ⟨hrw1, hrw2, hrw3⟩ := rows_is b4 b5
  have HW := Aside0.mk (fun W => Q.crossroadsref17_rows.calls 80 a b (rowsC a b) W hrw1)
  have HX := Aside0.mk (hrw3 _ hmod).1
  have hrl : ((rowsC a b).length : Int) = waysC a b := hrw2
  clear hrw1 hrw2 hrw3
  have hres : Aside0 (nthC t l a b c n = ((nthRow (capsC t l) (n / waysC a b)).take (filesL t).length, (nthRow (capsC t l) (n / waysC a b)).drop (filesL t).length, failsC (n % waysC a b) a b, true)) := ⟨by unfold nthC; rw [hn]; rfl⟩
  have hcle : countC t l a b c ≤ 1099511627776 := by
    unfold countC
    rw [if_pos hm]
    exact cnt_le 0 (by omega) _ _ (by omega)
  have HB7 := Aside0.mk b7
  have d1 : decide (n < 0) = false := decide_eq_false (by omega)
  have d2 : decide (countC t l a b c ≤ n) = false := decide_eq_false (by omega)
  have d3 : decide (1099511627776 ≤ countC t l a b c) = false := decide_eq_false (by omega)
  have hk0 : 1 ≤ waysC a b := hways.2.2.2 b5.1
  have hk1 : waysC a b ≤ 64 := hways.2.2.1
  have hrn : Aside0 (nthRow (capsC t l) (n / waysC a b) = setL (capsC t l) (capsC t l).length (List.replicate (capsC t l).length []) (n / waysC a b)) := ⟨rfl⟩
  rw [hres.out]
  have HNN := Aside0.mk (show 0 ≤ n / waysC a b from Int.ediv_nonneg hn0 (by omega))
  have HNM := Aside0.mk (show n / waysC a b ≤ 1099511627776 from Int.le_trans (Int.ediv_le_self _ hn0) (by omega))
  generalize countC t l a b c = m at HC d2 d3 hn1
  generalize hRW : rowsC a b = RW at *
  generalize waysC a b = wy at *
  generalize hfn : (filesL t).length = fn at *
  generalize failsC (n % wy) a b = fl at *
  generalize hCC : capsC t l = CC at *
  have hcb : CC.length ≤ 6 := by omega
  have hfc : fn ≤ CC.length := by omega
  have HCL := Aside0.mk hcl
  clear hcl
  subst hrl
  have HMOD := Aside0.mk hmod
  clear hRW hmod hr0 hr1 hz hn hm hn2 hways hkc hkp hkf hres hcle b7 b6
  go_enter Try.func12, Try.ntmps12
  go_wp2_with fail
  refine (HC.out _ (below_alloc (below_alloc (Below.refl _ _) _) _)).mono ?_
  rintro e w2 ⟨rfl, hB2⟩
  have KB2 := Aside0.mk ((hB2.block w.heap.size (by simp; omega)).trans (blk_alloc (blk_new w (.cells #[.slice A0 t.length c0, .slice A1 l.length c1, .int .i64 a, .int .i64 b, .int .i64 c] 25)) (.cells #[.slice none 0 0, .slice none 0 0, .slice none 0 0] 31)))
  have K42 := Aside0.mk ((hB2.block (w.heap.size + 1) (by simp)).trans (blk_new2 w (.cells #[.slice A0 t.length c0, .slice A1 l.length c1, .int .i64 a, .int .i64 b, .int .i64 c] 25) (.cells #[.slice none 0 0, .slice none 0 0, .slice none 0 0] 31)))
  have B2 := Aside0.mk (below_then (below_alloc (below_alloc (Below.refl _ _) _) _) (by simp; omega) hB2)
  have S2 := Aside0.mk (Nat.le_trans (show w.heap.size + 2 ≤ ((w.alloc (.cells #[.slice A0 t.length c0, .slice A1 l.length c1, .int .i64 a, .int .i64 b, .int .i64 c] 25)).alloc (.cells #[.slice none 0 0, .slice none 0 0, .slice none 0 0] 31)).heap.size by simp) hB2.size)
  clear hB2 HC
  have z0 := blk_cell KB2.out 0
  have z1 := blk_cell KB2.out 1
  have z2 := blk_cell KB2.out 2
  have z3 := blk_cell KB2.out 3
  have z4 := blk_cell KB2.out 4
  simp only [List.getElem?_toArray, List.getElem?_cons_zero, List.getElem?_cons_succ] at z0 z1 z2 z3 z4
  have q0' := fun o => blk_cell (blk_alloc KB2.out o) 2
  have q1' := fun o => blk_cell (blk_alloc KB2.out o) 3
  simp only [List.getElem?_toArray, List.getElem?_cons_zero, List.getElem?_cons_succ] at q0' q1'
  go_wp2_with fail
  refine (HW.out _).mono ?_
  rintro e w4 ⟨vR, rfl, hSR, hBX⟩
  have hS2 := S2.out
  have hRR := S_R_ hSR
  obtain ⟨AR, cR, rfl⟩ := Kd.R_slice hRR
  have g8lt : w2.heap.size < w4.heap.size := Nat.lt_of_lt_of_le (by simp) hBX.size
  have K8 := Aside0.mk ((hBX.block w2.heap.size (by simp)).trans (blk_new w2 (.cells #[.slice none 0 0, .slice none 0 0, .slice none 0 0] 31)))
  have KB4 := Aside0.mk ((hBX.block _ (by have := blk_lt KB2.out; simp; omega)).trans (blk_alloc KB2.out (.cells #[.slice none 0 0, .slice none 0 0, .slice none 0 0] 31)))
  have K44 := Aside0.mk ((hBX.block _ (by have := blk_lt K42.out; simp; omega)).trans (blk_alloc K42.out (.cells #[.slice none 0 0, .slice none 0 0, .slice none 0 0] 31)))
  have B4 := Aside0.mk (below_then (below_alloc B2.out (.cells #[.slice none 0 0, .slice none 0 0, .slice none 0 0] 31)) (by simp; omega) hBX)
  have S4 := Aside0.mk (show w.heap.size + 3 ≤ w4.heap.size by omega)
  have FR := Kd.V_F (V_of_R' (base := w2.heap.size + 1) hRR (by simp))
  have hRWm : RW.length ≤ 9223372036854775807 := Kd.F_max FR
  have hmo := HMOD.out
  obtain ⟨adR, csR, eR, _, hFK, hcR⟩ := Kd.F_get FR [] (n % (RW.length : Int)) hmo.1 hmo.2
  obtain ⟨AF, cF, rfl, hlF, hFF⟩ := Kd.FK_slice_open hFK
  have hcR0 := hcR.1 0 _ rfl
  rw [HX.out] at hcR0 hlF hFF
  rw [show (n % (RW.length : Int)).toNat * (Kd.slice 4 Kd.bool).sz + 0 = (n % (RW.length : Int)).toNat from by show (n % (RW.length : Int)).toNat * 1 + 0 = _; omega] at hcR0
  cases eR
  have VF4 := Aside0.mk (Kd.V_mk (e := 4) (base := w.heap.size) hlF hFF)
  have hmt : Int.tmod n (RW.length : Int) = n % (RW.length : Int) := Int.tmod_eq_emod_of_nonneg hn0
  have G8' := Aside0.mk (show w.heap.size + 2 ≤ w2.heap.size from S2.out)
  clear hSR hRR hBX KB2 K42 B2 S2 z0 z1 z2 z3 z4 q0' q1' FR hFK hcR hlF hFF HW HX
  obtain ⟨g8, hg8⟩ : ∃ g, w2.heap.size = g := ⟨_, rfl⟩
  rw [hg8] at K8 VF4 G8' g8lt ⊢
  clear hg8
  have z8 := blk_cell K8.out 2
  have f8 := blk_frozen K8.out 2
  simp only [List.getElem?_toArray, List.getElem?_cons_zero, List.getElem?_cons_succ] at z8
  have z0 := blk_cell KB4.out 0
  have z1 := blk_cell KB4.out 1
  have z2 := blk_cell KB4.out 2
  have z3 := blk_cell KB4.out 3
  have z4 := blk_cell KB4.out 4
  simp only [List.getElem?_toArray, List.getElem?_cons_zero, List.getElem?_cons_succ] at z0 z1 z2 z3 z4
  have hne : ¬ ((RW.length : Int) = 0) := by omega
  have hne2 : ¬ RW.length = 0 := by omega
  have hne3 : ¬ RW = [] := fun e => hne2 (by rw [e]; rfl)
  have hdv : Int.tdiv n (RW.length : Int) = n / (RW.length : Int) := Int.tdiv_eq_ediv_of_nonneg hn0
  have hd0 := HNN.out
  have hd1 := HNM.out
  generalize hnd : n / (RW.length : Int) = nd0 at *
  have hww : wrap64 nd0 = nd0 := by unfold wrap64; omega
  have hndA := Aside0.mk hnd
  clear hnd
  generalize hmi : n % (RW.length : Int) = mi at *
  clear hmi
  have g8a : w.heap.size ≠ g8 := by have := G8'.out; omega
  have g8b : w.heap.size + 1 ≠ g8 := by have := G8'.out; omega
  have KB4s := Aside0.mk (blk_far (p := ⟨g8, 2, none⟩) KB4.out g8a (.slice AF fl.length cF))
  have K44s := Aside0.mk (blk_far (p := ⟨g8, 2, none⟩) K44.out g8b (.slice AF fl.length cF))
  have K8s := Aside0.mk (show (w4.setCell ⟨g8, 2, none⟩ (.slice AF fl.length cF)).heap[g8]? = some (.cells #[.slice none 0 0, .slice none 0 0, .slice AF fl.length cF] 31 (0, 0)) from blk_set K8.out 2 (.slice AF fl.length cF))
  have VF4s := Aside0.mk (Kd.V_far (p := ⟨g8, 2, none⟩) VF4.out (fun k hk => by have h_ : g8 + 1 ≤ k := hk; show k ≠ g8; omega) (.slice AF fl.length cF))
  have B4s := Aside0.mk (B4.out.setCell (p := ⟨g8, 2, none⟩) (show w.heap.size ≤ g8 by have := G8'.out; omega) (.slice AF fl.length cF))
  have S4s := Aside0.mk (show w.heap.size + 3 ≤ (w4.setCell ⟨g8, 2, none⟩ (.slice AF fl.length cF)).heap.size by simpa using S4.out)
  clear KB4 K44 K8 VF4 B4 S4 z0 z1 z2 z3 z4
  have z0 := blk_cell KB4s.out 0
  have z1 := blk_cell KB4s.out 1
  have z2 := blk_cell KB4s.out 2
  have z3 := blk_cell KB4s.out 3
  have z4 := blk_cell KB4s.out 4
  simp only [List.getElem?_toArray, List.getElem?_cons_zero, List.getElem?_cons_succ] at z0 z1 z2 z3 z4
  go_wp2_with fail
  refine (HP.out _ B4s.out).mono ?_
  rintro e w5 ⟨vC, rfl, hRC, hB5⟩
  obtain ⟨AC, cC, rfl, hcC, hCC5⟩ := Kd.R_reads hRC
  have C5 := Aside0.mk hCC5
  have KB5 := Aside0.mk ((hB5.block _ (blk_lt KB4s.out)).trans KB4s.out)
  have K45 := Aside0.mk ((hB5.block _ (blk_lt K44s.out)).trans K44s.out)
  have K85 := Aside0.mk ((hB5.block _ (blk_lt K8s.out)).trans K8s.out)
  have RF5 := Aside0.mk (Kd.V_below VF4s.out hB5)
  have B5 := Aside0.mk (below_then B4s.out (by have := S4s.out; omega) hB5)
  have S5 := Aside0.mk (Nat.le_trans S4s.out hB5.size)
  clear hRC hCC5 hB5 KB4s K44s K8s VF4s B4s S4s z8 f8 z0 z1 z2 z3 z4
  have hmk := run_make_row' (P := Try.prog) 28 42 (.slice none 0 0) 24 Try.underlying28 info42 rfl .i64 .i64 CC.length (by omega) (by omega)
  have hRV := RowsV.made w5 w5.heap.size CC.length (Nat.le_refl _)
  have RV := Aside0.mk hRV
  clear hRV
  have hres0 : Aside0 (setL CC CC.length (List.replicate CC.length []) nd0 = nthRow CC nd0) := ⟨rfl⟩
  generalize hRES : nthRow CC nd0 = RES at *
  have hRESl : Aside0 (RES.length = CC.length) := ⟨by rw [← hRES, nthRow_len]⟩
  have hRESA := Aside0.mk hRES
  clear hRES hrn
  go_wp2
  go_loopg [1, 11, 12] CC.length (fun kq v1 v11 v12 w' => ∃ (x i : Int) (cs : List Value) (L : List (List Int)), v1 = .int .i64 x ∧ v11 = .int .i64 i ∧ Aside0 (0 ≤ x ∧ x ≤ 1099511627776 ∧ -1 ≤ i ∧ (kq : Int) = i + 1 ∧ i < CC.length ∧ L.length = CC.length) ∧ Aside0 (setL CC (i + 1).toNat L x = RES) ∧ Aside0 (RowsV w' w5.heap.size w5.heap.size cs L) ∧ Aside0 (Below w5.heap.size w5 w'))
  case atStart =>
    exact ⟨nd0, (CC.length : Int) - 1, _, _, rfl, rfl, ⟨by simp; omega⟩, ⟨by rw [show ((CC.length : Int) - 1 + 1).toNat = CC.length by omega]; exact hres0.out⟩, RV, ⟨below_alloc (Below.refl _ _) _⟩⟩
  case round =>
    clear hres0 RV hmk
    obtain ⟨x, i, cs, L, rfl, rfl, HI, HL, HV, HB⟩ := hrel
    have hI := HI.out
    by_cases hi0 : 0 ≤ i
    · obtain ⟨k1, rfl⟩ : ∃ k1, gk = k1 + 1 := ⟨gk - 1, by omega⟩
      have hlt : i < (CC.length : Int) := by omega
      have di : decide (0 ≤ i) = true := decide_eq_true hi0
      obtain ⟨ay, ey, hy5⟩ := Kd.at_int C5.out i hi0 hlt
      obtain ⟨y, hyy⟩ : ∃ y, rd CC i = y := ⟨_, rfl⟩
      have hym : y ∈ CC := by
        rw [← hyy]; unfold rd
        rw [List.getD_eq_getElem?_getD, List.getElem?_eq_getElem (show i.toNat < CC.length by omega)]
        exact List.getElem_mem _
      have hyb := HB7.out y hym
      have hL := HL.out
      rw [show (i + 1).toNat = i.toNat + 1 by omega, setL, show ((i.toNat : Nat) : Int) = i by omega, hyy] at hL
      rw [hyy] at hy5
      cases ey
      have hy := (HB.out.cell (World.block_lt_of_cell? w5 _ hy5)).trans hy5
      have htx := fun W => Q.crossroadsref17_texts.calls 9 y (textsC y) W (texts_is hyb).2
      have htp := textsC_pos y
      have hmb : 0 ≤ x % textsC y ∧ x % textsC y < 16843009 := ⟨Int.emod_nonneg _ (by omega), by have := Int.emod_lt_of_pos x (show 0 < textsC y by omega); omega⟩
      have htt := fun W => Q.crossroadsref17_text.calls 20 (x % textsC y) (textC (x % textsC y)) W (rtext_is hmb)
      have hdb : 0 ≤ x / textsC y ∧ x / textsC y ≤ 1099511627776 := ⟨Int.ediv_nonneg hI.1 (by omega), Int.le_trans (Int.ediv_le_self _ hI.1) hI.2.1⟩
      generalize textsC y = ty at *
      have hmm : Int.tmod x ty = x % ty := Int.tmod_eq_emod_of_nonneg hI.1
      have hdd : Int.tdiv x ty = x / ty := Int.tdiv_eq_ediv_of_nonneg hI.1
      have hty : ¬ ty = 0 := by omega
      generalize hq : x / ty = q at *
      generalize textC (x % ty) = tx at *
      generalize hm : x % ty = mm at *
      have hwq : wrap64 q = q := by unfold wrap64; omega
      have pi : 0 ≤ i ∧ i < (CC.length : Int) := ⟨hi0, hlt⟩
      have TX := Aside0.mk htx
      have TT := Aside0.mk htt
      have HLA := Aside0.mk hL
      have HS := Aside0.mk S5.out
      clear htx htt hL hyy hym hyb hq hm HL htp hmb
      have hwi : wrap64 (i - 1) = i - 1 := by unfold wrap64; omega
      go_wp2_with fail
      refine (TX.out _).mono ?_
      rintro e w6 ⟨rfl, ⟨nd, rfl⟩⟩
      go_wp2_with fail
      refine (TT.out _).mono ?_
      rintro e w7 ⟨vt, rfl, hRt, hB7⟩
      have hg7 : w5.heap.size < (World.drewN wr nd).heap.size := blk_lt HV.out.1
      have V7 := Aside0.mk (V_of_R (base := w5.heap.size) (g := w5.heap.size) hRt (Nat.le_of_lt hg7) hg7)
      have HV7 := Aside0.mk ((HV.out.below (pw_below_drewN (Below.refl _ _) nd)).below hB7)
      have HB7' := Aside0.mk (below_then (pw_below_drewN HB.out nd) (Nat.le_of_lt hg7) hB7)
      obtain ⟨⟨vo, hvo⟩, hfz⟩ := RowsV.cell HV7.out i.toNat (by omega)
      obtain ⟨At, ct, rfl⟩ := Kd.R_slice hRt
      have hy7 := pw_cell_below (pw_below_drewN (Below.refl wr.heap.size wr) nd) hy
      replace hy7 := pw_cell_below hB7 hy7
      have hys : ∀ v, (w7.setCell ⟨w5.heap.size, i.toNat, none⟩ v).cell? (ay.add i.toNat) = some (.int .i64 y) := fun v => (((Below.refl w5.heap.size w7).setCell (p := ⟨w5.heap.size, i.toNat, none⟩) (Nat.le_refl _) v).cell (World.block_lt_of_cell? w5 _ hy5)).trans hy7
      clear hy5
      clear hRt hB7 hg7
      go_wp2
      go_roundg k1
      case measure => omega
      case rel => exact ⟨q, i - 1, _, _, rfl, rfl, ⟨by rw [List.length_set]; omega⟩, ⟨by rw [show (i - 1 + 1).toNat = i.toNat by omega]; exact HLA.out⟩, ⟨HV7.out.put i.toNat V7.out⟩, ⟨HB7'.out.setCell (p := ⟨w5.heap.size, i.toNat, none⟩) (Nat.le_refl _) _⟩⟩
    · have hie : i = -1 := by omega
      subst hie
      have hLe : L = RES := HL.out
      subst hLe
      have KBr := Aside0.mk ((HB.out.block _ (blk_lt KB5.out)).trans KB5.out)
      have Bwr := Aside0.mk (below_then B5.out (by have := S5.out; omega) HB.out)
      have z0 := blk_cell KBr.out 0
      have z1 := blk_cell KBr.out 1
      have z2 := blk_cell KBr.out 2
      have z3 := blk_cell KBr.out 3
      have z4 := blk_cell KBr.out 4
      simp only [List.getElem?_toArray, List.getElem?_cons_zero, List.getElem?_cons_succ] at z0 z1 z2 z3 z4
      have BR := Aside0.mk (Below.refl wr.heap.size wr)
      have K8r := Aside0.mk ((HB.out.block _ (blk_lt K85.out)).trans K85.out)
      have K4r := Aside0.mk ((HB.out.block _ (blk_lt K45.out)).trans K45.out)
      have VFr := Aside0.mk (Kd.V_below RF5.out HB.out)
      have g85 := blk_lt K85.out
      have g45 := blk_lt K45.out
      go_wp2_with fail
      by_cases hfe : CC.length = fn
      · go_region_law (first
          | (refine goes_ (f := 30) (N := some 74) Try.func30 (by kernel_rfl) rfl #[.agg #[.slice A0 t.length c0, .slice A1 l.length c1, .int .i64 a, .int .i64 b, .int .i64 c]] rfl rfl rfl ?harg74 ?_; (case harg74 => (simp only [List.map_toArray, List.map_cons, List.map_nil]; rfl)); refine (HF.out _ (below_then Bwr.out Bwr.out.size (by first | exact BR.out | exact below_drew BR.out))).mono ?_; rintro e W5 ⟨rfl, hB5⟩; refine ⟨_, rfl, ?_⟩; have BR := Aside0.mk (below_then (show Below wr.heap.size wr _ by first | exact BR.out | exact below_drew BR.out) (by first | exact BR.out.size | exact (below_drew BR.out).size) hB5); have KBx := Aside0.mk ((BR.out.block w.heap.size (blk_lt KBr.out)).trans KBr.out); have K8x := Aside0.mk ((BR.out.block g8 (blk_lt K8r.out)).trans K8r.out); have z0 := blk_cell KBx.out 0; have z1 := blk_cell KBx.out 1; have z2 := blk_cell KBx.out 2; have z3 := blk_cell KBx.out 3; have z4 := blk_cell KBx.out 4; have q0 := blk_cell K8x.out 0; have q1 := blk_cell K8x.out 1; have q2 := blk_cell K8x.out 2; have p0 := blk_frozen K8x.out 0; have p1 := blk_frozen K8x.out 1; simp only [List.getElem?_toArray, List.getElem?_cons_zero, List.getElem?_cons_succ] at z0 z1 z2 z3 z4 q0 q1 q2; clear hB5)
          | (refine goes_ (f := 30) (N := some 78) Try.func30 (by kernel_rfl) rfl #[.agg #[.slice A0 t.length c0, .slice A1 l.length c1, .int .i64 a, .int .i64 b, .int .i64 c]] rfl rfl rfl ?harg78 ?_; (case harg78 => (simp only [List.map_toArray, List.map_cons, List.map_nil]; rfl)); refine (HF.out _ (below_then Bwr.out Bwr.out.size (by first | exact BR.out | exact below_drew BR.out))).mono ?_; rintro e W5 ⟨rfl, hB5⟩; refine ⟨_, rfl, ?_⟩; have BR := Aside0.mk (below_then (show Below wr.heap.size wr _ by first | exact BR.out | exact below_drew BR.out) (by first | exact BR.out.size | exact (below_drew BR.out).size) hB5); have KBx := Aside0.mk ((BR.out.block w.heap.size (blk_lt KBr.out)).trans KBr.out); have K8x := Aside0.mk ((BR.out.block g8 (blk_lt K8r.out)).trans K8r.out); have z0 := blk_cell KBx.out 0; have z1 := blk_cell KBx.out 1; have z2 := blk_cell KBx.out 2; have z3 := blk_cell KBx.out 3; have z4 := blk_cell KBx.out 4; have q0 := blk_cell K8x.out 0; have q1 := blk_cell K8x.out 1; have q2 := blk_cell K8x.out 2; have p0 := blk_frozen K8x.out 0; have p1 := blk_frozen K8x.out 1; simp only [List.getElem?_toArray, List.getElem?_cons_zero, List.getElem?_cons_succ] at z0 z1 z2 z3 z4 q0 q1 q2; clear hB5))
        all_goals
          (try dsimp only [Act.put])
          generalize hWA : World.setCell (World.setCell _ _ _) _ _ = wA
          have KA8 : wA.heap[g8]? = some (.cells #[.slice (some ⟨w5.heap.size, 0, none⟩) fn fn, (Value.slice (some ⟨w5.heap.size, 0, none⟩) 0 0), .slice AF fl.length cF] 31 (0, 0)) := hWA ▸ blk_set (blk_set K8x.out 0 (.slice (some ⟨w5.heap.size, 0, none⟩) fn fn)) 1 (Value.slice (some ⟨w5.heap.size, 0, none⟩) 0 0)
          have K49 := (BR.out.block _ (blk_lt K4r.out)).trans K4r.out
          have KA4 : wA.heap[w.heap.size + 1]? = some (.cells #[.slice none 0 0, .slice none 0 0, .slice none 0 0] 31 (0, 0)) := hWA ▸ blk_far (p := ⟨g8, 1, none⟩) (blk_far (p := ⟨g8, 0, none⟩) K49 g8b _) g8b _
          have BA : Below w.heap.size w wA := hWA ▸ ((below_then Bwr.out Bwr.out.size BR.out).setCell (p := ⟨g8, 0, none⟩) (show w.heap.size ≤ g8 by have := G8'.out; omega) _).setCell (p := ⟨g8, 1, none⟩) (show w.heap.size ≤ g8 by have := G8'.out; omega) _
          have hHV9 := HV.out.below BR.out
          have hF9 := hHV9.read (by omega)
          have hLc : L.length = CC.length := hI.2.2.2.2.2
          have hVF1 : Kd.V Kd.bool 4 wA w.heap.size (fun k => g8 + 1 ≤ k) (.slice AF fl.length cF) fl := hWA ▸ Kd.V_far (p := ⟨g8, 1, none⟩) (Kd.V_far (p := ⟨g8, 0, none⟩) (Kd.V_below VFr.out BR.out) (fun k hk => by have h_ : g8 + 1 ≤ k := hk; show k ≠ g8; omega) _) (fun k hk => by have h_ : g8 + 1 ≤ k := hk; show k ≠ g8; omega) _
          have hV0 : Kd.V kb 42 W5 w.heap.size (fun k => w5.heap.size ≤ k) (.slice (some ⟨w5.heap.size, 0, none⟩) fn fn) (L.take fn) := by
            have h := Kd.V_mk (e := 42) (base := w.heap.size) (c := fn) (by rw [List.length_take]; omega) (Kd.F_take (m := fn) hF9 (by omega))
            rw [List.length_take, show min fn L.length = fn by omega] at h
            exact h
          have hV1 : Kd.V kb 42 W5 w.heap.size (fun k => w5.heap.size ≤ k) (Value.slice (some ⟨w5.heap.size, 0, none⟩) 0 0) (L.drop fn) := by
            have h0 : L.drop fn = [] := List.drop_of_length_le (by omega)
            rw [h0]
            have h := Kd.V_mk (xs := ([] : List (List Int))) (e := 42) (base := w.heap.size) (c := 0) (by simp) (Kd.F_imp (A' := some ⟨w5.heap.size, 0, none⟩) (d' := kb) (n' := 0) (xs' := []) hF9 (fun W' hC => ⟨rfl, by simp, fun h => absurd h (by simp)⟩))
            exact h
          have hVA : ∀ (v : Value) (x : List (List Int)), Kd.V kb 42 W5 w.heap.size (fun k => w5.heap.size ≤ k) v x → Kd.V kb 42 wA w.heap.size (fun k => w5.heap.size ≤ k) v x := fun v x h => hWA ▸ Kd.V_far (p := ⟨g8, 1, none⟩) (Kd.V_far (p := ⟨g8, 0, none⟩) h (fun k hk => by have h_ : w5.heap.size ≤ k := hk; show k ≠ g8; omega) _) (fun k hk => by have h_ : w5.heap.size ≤ k := hk; show k ≠ g8; omega) _
          have far4 : ∀ k, w5.heap.size ≤ k → k ≠ w.heap.size + 1 := fun k hk => by have := S5.out; omega
          have far5 : ∀ k, g8 + 1 ≤ k → k ≠ w.heap.size + 1 := fun k hk => by have := G8'.out; omega
          have hVB : ∀ (v : Value) (x : List (List Int)) (u0 u1 u2 : Value), Kd.V kb 42 wA w.heap.size (fun k => w5.heap.size ≤ k) v x → Kd.V kb 42 (((wA.setCell ⟨w.heap.size + 1, 0, none⟩ u0).setCell ⟨w.heap.size + 1, 1, none⟩ u1).setCell ⟨w.heap.size + 1, 2, none⟩ u2) w.heap.size (fun k => w.heap.size ≤ k) v x := fun v x u0 u1 u2 h =>
            Kd.V_mono (Kd.V_far (p := ⟨w.heap.size + 1, 2, none⟩) (Kd.V_far (p := ⟨w.heap.size + 1, 1, none⟩) (Kd.V_far (p := ⟨w.heap.size + 1, 0, none⟩) h far4 _) far4 _) far4 _) (fun k hk => by have h_ : w5.heap.size ≤ k := hk; have := S5.out; show w.heap.size ≤ k; omega)
          have hVC : ∀ (u0 u1 u2 : Value), Kd.V Kd.bool 4 (((wA.setCell ⟨w.heap.size + 1, 0, none⟩ u0).setCell ⟨w.heap.size + 1, 1, none⟩ u1).setCell ⟨w.heap.size + 1, 2, none⟩ u2) w.heap.size (fun k => w.heap.size ≤ k) (.slice AF fl.length cF) fl := fun u0 u1 u2 =>
            Kd.V_mono (Kd.V_far (p := ⟨w.heap.size + 1, 2, none⟩) (Kd.V_far (p := ⟨w.heap.size + 1, 1, none⟩) (Kd.V_far (p := ⟨w.heap.size + 1, 0, none⟩) hVF1 far5 _) far5 _) far5 _) (fun k hk => by have h_ : g8 + 1 ≤ k := hk; have := G8'.out; show w.heap.size ≤ k; omega)
          have FINA : Aside0 (NthP w (L.take fn, L.drop fn, fl, true) (.returned (.tuple #[.agg #[.slice (some ⟨w5.heap.size, 0, none⟩) fn fn, (Value.slice (some ⟨w5.heap.size, 0, none⟩) 0 0), .slice AF fl.length cF], .bool true])) (((wA.setCell ⟨w.heap.size + 1, 0, none⟩ (.slice (some ⟨w5.heap.size, 0, none⟩) fn fn)).setCell ⟨w.heap.size + 1, 1, none⟩ (Value.slice (some ⟨w5.heap.size, 0, none⟩) 0 0)).setCell ⟨w.heap.size + 1, 2, none⟩ (.slice AF fl.length cF))) := ⟨_, _, _, rfl, hVB _ _ _ _ _ (hVA _ _ hV0), hVB _ _ _ _ _ (hVA _ _ hV1), hVC _ _ _, ((BA.setCell (p := ⟨w.heap.size + 1, 0, none⟩) (by simp) _).setCell (p := ⟨w.heap.size + 1, 1, none⟩) (by simp) _).setCell (p := ⟨w.heap.size + 1, 2, none⟩) (by simp) _⟩
          have y0 := (blk_cell (blk_set KA4 0 (.slice (some ⟨w5.heap.size, 0, none⟩) fn fn)) 0).trans rfl
          have y1 := (blk_cell (blk_set (blk_set KA4 0 (.slice (some ⟨w5.heap.size, 0, none⟩) fn fn)) 1 (Value.slice (some ⟨w5.heap.size, 0, none⟩) 0 0)) 1).trans rfl
          have y2 := (blk_cell (blk_set (blk_set (blk_set KA4 0 (.slice (some ⟨w5.heap.size, 0, none⟩) fn fn)) 1 (Value.slice (some ⟨w5.heap.size, 0, none⟩) 0 0)) 2 (.slice AF fl.length cF)) 2).trans rfl
          have Y0 := Aside0.mk y0
          have Y1 := Aside0.mk y1
          have Y2 := Aside0.mk y2
          have a0 := blk_cell KA8 0
          have a1 := blk_cell KA8 1
          have a2 := blk_cell KA8 2
          have r0 := blk_cell KA4 0
          have r1 := blk_cell KA4 1
          have r2 := blk_cell KA4 2
          have s0 := blk_frozen KA4 0
          have s1 := blk_frozen KA4 1
          have s2 := blk_frozen KA4 2
          simp only [List.getElem?_toArray, List.getElem?_cons_zero, List.getElem?_cons_succ] at a0 a1 a2 r0 r1 r2
          clear y0 y1 y2 KA8 KA4 K49 BA hVF1 hF9 hHV9 hV0 hV1 hVA hVB hVC far4 far5 hWA q0 q1 q2 p0 p1
          go_wp2
          have y0 : _ = some (Value.slice (some ⟨w5.heap.size, 0, none⟩) fn fn) := Y0.out
          have y1 : _ = some (Value.slice (some ⟨w5.heap.size, 0, none⟩) 0 0) := Y1.out
          have y2 : _ = some (Value.slice AF fl.length cF) := Y2.out
          exact bodyPost_ret (v := .tuple #[.agg #[.slice (some ⟨w5.heap.size, 0, none⟩) fn fn, (Value.slice (some ⟨w5.heap.size, 0, none⟩) 0 0), .slice AF fl.length cF], .bool true]) (by simp [results, Try.results12, y0, y1, y2, go_sem]) rfl (by rw [hndA.out, hRESA.out]; exact FINA.out)
      · go_region_law (first
          | (refine goes_ (f := 30) (N := some 74) Try.func30 (by kernel_rfl) rfl #[.agg #[.slice A0 t.length c0, .slice A1 l.length c1, .int .i64 a, .int .i64 b, .int .i64 c]] rfl rfl rfl ?harg74 ?_; (case harg74 => (simp only [List.map_toArray, List.map_cons, List.map_nil]; rfl)); refine (HF.out _ (below_then Bwr.out Bwr.out.size (by first | exact BR.out | exact below_drew BR.out))).mono ?_; rintro e W5 ⟨rfl, hB5⟩; refine ⟨_, rfl, ?_⟩; have BR := Aside0.mk (below_then (show Below wr.heap.size wr _ by first | exact BR.out | exact below_drew BR.out) (by first | exact BR.out.size | exact (below_drew BR.out).size) hB5); have KBx := Aside0.mk ((BR.out.block w.heap.size (blk_lt KBr.out)).trans KBr.out); have K8x := Aside0.mk ((BR.out.block g8 (blk_lt K8r.out)).trans K8r.out); have z0 := blk_cell KBx.out 0; have z1 := blk_cell KBx.out 1; have z2 := blk_cell KBx.out 2; have z3 := blk_cell KBx.out 3; have z4 := blk_cell KBx.out 4; have q0 := blk_cell K8x.out 0; have q1 := blk_cell K8x.out 1; have q2 := blk_cell K8x.out 2; have p0 := blk_frozen K8x.out 0; have p1 := blk_frozen K8x.out 1; simp only [List.getElem?_toArray, List.getElem?_cons_zero, List.getElem?_cons_succ] at z0 z1 z2 z3 z4 q0 q1 q2; clear hB5)
          | (refine goes_ (f := 30) (N := some 78) Try.func30 (by kernel_rfl) rfl #[.agg #[.slice A0 t.length c0, .slice A1 l.length c1, .int .i64 a, .int .i64 b, .int .i64 c]] rfl rfl rfl ?harg78 ?_; (case harg78 => (simp only [List.map_toArray, List.map_cons, List.map_nil]; rfl)); refine (HF.out _ (below_then Bwr.out Bwr.out.size (by first | exact BR.out | exact below_drew BR.out))).mono ?_; rintro e W5 ⟨rfl, hB5⟩; refine ⟨_, rfl, ?_⟩; have BR := Aside0.mk (below_then (show Below wr.heap.size wr _ by first | exact BR.out | exact below_drew BR.out) (by first | exact BR.out.size | exact (below_drew BR.out).size) hB5); have KBx := Aside0.mk ((BR.out.block w.heap.size (blk_lt KBr.out)).trans KBr.out); have K8x := Aside0.mk ((BR.out.block g8 (blk_lt K8r.out)).trans K8r.out); have z0 := blk_cell KBx.out 0; have z1 := blk_cell KBx.out 1; have z2 := blk_cell KBx.out 2; have z3 := blk_cell KBx.out 3; have z4 := blk_cell KBx.out 4; have q0 := blk_cell K8x.out 0; have q1 := blk_cell K8x.out 1; have q2 := blk_cell K8x.out 2; have p0 := blk_frozen K8x.out 0; have p1 := blk_frozen K8x.out 1; simp only [List.getElem?_toArray, List.getElem?_cons_zero, List.getElem?_cons_succ] at z0 z1 z2 z3 z4 q0 q1 q2; clear hB5))
        all_goals
          (try dsimp only [Act.put])
          generalize hWA : World.setCell (World.setCell _ _ _) _ _ = wA
          have KA8 : wA.heap[g8]? = some (.cells #[.slice (some ⟨w5.heap.size, 0, none⟩) fn CC.length, (Value.slice (some ⟨w5.heap.size, fn, none⟩) (CC.length - fn) (CC.length - fn)), .slice AF fl.length cF] 31 (0, 0)) := hWA ▸ blk_set (blk_set K8x.out 0 (.slice (some ⟨w5.heap.size, 0, none⟩) fn CC.length)) 1 (Value.slice (some ⟨w5.heap.size, fn, none⟩) (CC.length - fn) (CC.length - fn))
          have K49 := (BR.out.block _ (blk_lt K4r.out)).trans K4r.out
          have KA4 : wA.heap[w.heap.size + 1]? = some (.cells #[.slice none 0 0, .slice none 0 0, .slice none 0 0] 31 (0, 0)) := hWA ▸ blk_far (p := ⟨g8, 1, none⟩) (blk_far (p := ⟨g8, 0, none⟩) K49 g8b _) g8b _
          have BA : Below w.heap.size w wA := hWA ▸ ((below_then Bwr.out Bwr.out.size BR.out).setCell (p := ⟨g8, 0, none⟩) (show w.heap.size ≤ g8 by have := G8'.out; omega) _).setCell (p := ⟨g8, 1, none⟩) (show w.heap.size ≤ g8 by have := G8'.out; omega) _
          have hHV9 := HV.out.below BR.out
          have hF9 := hHV9.read (by omega)
          have hLc : L.length = CC.length := hI.2.2.2.2.2
          have hVF1 : Kd.V Kd.bool 4 wA w.heap.size (fun k => g8 + 1 ≤ k) (.slice AF fl.length cF) fl := hWA ▸ Kd.V_far (p := ⟨g8, 1, none⟩) (Kd.V_far (p := ⟨g8, 0, none⟩) (Kd.V_below VFr.out BR.out) (fun k hk => by have h_ : g8 + 1 ≤ k := hk; show k ≠ g8; omega) _) (fun k hk => by have h_ : g8 + 1 ≤ k := hk; show k ≠ g8; omega) _
          have hV0 : Kd.V kb 42 W5 w.heap.size (fun k => w5.heap.size ≤ k) (.slice (some ⟨w5.heap.size, 0, none⟩) fn CC.length) (L.take fn) := by
            have h := Kd.V_mk (e := 42) (base := w.heap.size) (c := CC.length) (by rw [List.length_take]; omega) (Kd.F_take (m := fn) hF9 (by omega))
            rw [List.length_take, show min fn L.length = fn by omega] at h
            exact h
          have hV1 : Kd.V kb 42 W5 w.heap.size (fun k => w5.heap.size ≤ k) (Value.slice (some ⟨w5.heap.size, fn, none⟩) (CC.length - fn) (CC.length - fn)) (L.drop fn) := by
            have h := Kd.V_mk (e := 42) (base := w.heap.size) (c := CC.length - fn) (by rw [List.length_drop]; omega) (Kd.F_cut (m := fn) (c := CC.length) hF9 (by omega) (by omega))
            rw [if_neg hfe, List.length_drop, hLc] at h
            rw [show (Option.map (fun x => Addr.add x (fn * kb.sz)) (some (⟨w5.heap.size, 0, none⟩ : Addr))) = some (⟨w5.heap.size, fn, none⟩ : Addr) from congrArg some ((congrArg _ (Nat.mul_one fn)).trans (add_plain _ _))] at h
            exact h
          have hVA : ∀ (v : Value) (x : List (List Int)), Kd.V kb 42 W5 w.heap.size (fun k => w5.heap.size ≤ k) v x → Kd.V kb 42 wA w.heap.size (fun k => w5.heap.size ≤ k) v x := fun v x h => hWA ▸ Kd.V_far (p := ⟨g8, 1, none⟩) (Kd.V_far (p := ⟨g8, 0, none⟩) h (fun k hk => by have h_ : w5.heap.size ≤ k := hk; show k ≠ g8; omega) _) (fun k hk => by have h_ : w5.heap.size ≤ k := hk; show k ≠ g8; omega) _
          have far4 : ∀ k, w5.heap.size ≤ k → k ≠ w.heap.size + 1 := fun k hk => by have := S5.out; omega
          have far5 : ∀ k, g8 + 1 ≤ k → k ≠ w.heap.size + 1 := fun k hk => by have := G8'.out; omega
          have hVB : ∀ (v : Value) (x : List (List Int)) (u0 u1 u2 : Value), Kd.V kb 42 wA w.heap.size (fun k => w5.heap.size ≤ k) v x → Kd.V kb 42 (((wA.setCell ⟨w.heap.size + 1, 0, none⟩ u0).setCell ⟨w.heap.size + 1, 1, none⟩ u1).setCell ⟨w.heap.size + 1, 2, none⟩ u2) w.heap.size (fun k => w.heap.size ≤ k) v x := fun v x u0 u1 u2 h =>
            Kd.V_mono (Kd.V_far (p := ⟨w.heap.size + 1, 2, none⟩) (Kd.V_far (p := ⟨w.heap.size + 1, 1, none⟩) (Kd.V_far (p := ⟨w.heap.size + 1, 0, none⟩) h far4 _) far4 _) far4 _) (fun k hk => by have h_ : w5.heap.size ≤ k := hk; have := S5.out; show w.heap.size ≤ k; omega)
          have hVC : ∀ (u0 u1 u2 : Value), Kd.V Kd.bool 4 (((wA.setCell ⟨w.heap.size + 1, 0, none⟩ u0).setCell ⟨w.heap.size + 1, 1, none⟩ u1).setCell ⟨w.heap.size + 1, 2, none⟩ u2) w.heap.size (fun k => w.heap.size ≤ k) (.slice AF fl.length cF) fl := fun u0 u1 u2 =>
            Kd.V_mono (Kd.V_far (p := ⟨w.heap.size + 1, 2, none⟩) (Kd.V_far (p := ⟨w.heap.size + 1, 1, none⟩) (Kd.V_far (p := ⟨w.heap.size + 1, 0, none⟩) hVF1 far5 _) far5 _) far5 _) (fun k hk => by have h_ : g8 + 1 ≤ k := hk; have := G8'.out; show w.heap.size ≤ k; omega)
          have FINA : Aside0 (NthP w (L.take fn, L.drop fn, fl, true) (.returned (.tuple #[.agg #[.slice (some ⟨w5.heap.size, 0, none⟩) fn CC.length, (Value.slice (some ⟨w5.heap.size, fn, none⟩) (CC.length - fn) (CC.length - fn)), .slice AF fl.length cF], .bool true])) (((wA.setCell ⟨w.heap.size + 1, 0, none⟩ (.slice (some ⟨w5.heap.size, 0, none⟩) fn CC.length)).setCell ⟨w.heap.size + 1, 1, none⟩ (Value.slice (some ⟨w5.heap.size, fn, none⟩) (CC.length - fn) (CC.length - fn))).setCell ⟨w.heap.size + 1, 2, none⟩ (.slice AF fl.length cF))) := ⟨_, _, _, rfl, hVB _ _ _ _ _ (hVA _ _ hV0), hVB _ _ _ _ _ (hVA _ _ hV1), hVC _ _ _, ((BA.setCell (p := ⟨w.heap.size + 1, 0, none⟩) (by simp) _).setCell (p := ⟨w.heap.size + 1, 1, none⟩) (by simp) _).setCell (p := ⟨w.heap.size + 1, 2, none⟩) (by simp) _⟩
          have y0 := (blk_cell (blk_set KA4 0 (.slice (some ⟨w5.heap.size, 0, none⟩) fn CC.length)) 0).trans rfl
          have y1 := (blk_cell (blk_set (blk_set KA4 0 (.slice (some ⟨w5.heap.size, 0, none⟩) fn CC.length)) 1 (Value.slice (some ⟨w5.heap.size, fn, none⟩) (CC.length - fn) (CC.length - fn))) 1).trans rfl
          have y2 := (blk_cell (blk_set (blk_set (blk_set KA4 0 (.slice (some ⟨w5.heap.size, 0, none⟩) fn CC.length)) 1 (Value.slice (some ⟨w5.heap.size, fn, none⟩) (CC.length - fn) (CC.length - fn))) 2 (.slice AF fl.length cF)) 2).trans rfl
          have Y0 := Aside0.mk y0
          have Y1 := Aside0.mk y1
          have Y2 := Aside0.mk y2
          have a0 := blk_cell KA8 0
          have a1 := blk_cell KA8 1
          have a2 := blk_cell KA8 2
          have r0 := blk_cell KA4 0
          have r1 := blk_cell KA4 1
          have r2 := blk_cell KA4 2
          have s0 := blk_frozen KA4 0
          have s1 := blk_frozen KA4 1
          have s2 := blk_frozen KA4 2
          simp only [List.getElem?_toArray, List.getElem?_cons_zero, List.getElem?_cons_succ] at a0 a1 a2 r0 r1 r2
          clear y0 y1 y2 KA8 KA4 K49 BA hVF1 hF9 hHV9 hV0 hV1 hVA hVB hVC far4 far5 hWA q0 q1 q2 p0 p1
          go_wp2
          have y0 : _ = some (Value.slice (some ⟨w5.heap.size, 0, none⟩) fn CC.length) := Y0.out
          have y1 : _ = some (Value.slice (some ⟨w5.heap.size, fn, none⟩) (CC.length - fn) (CC.length - fn)) := Y1.out
          have y2 : _ = some (Value.slice AF fl.length cF) := Y2.out
          exact bodyPost_ret (v := .tuple #[.agg #[.slice (some ⟨w5.heap.size, 0, none⟩) fn CC.length, (Value.slice (some ⟨w5.heap.size, fn, none⟩) (CC.length - fn) (CC.length - fn)), .slice AF fl.length cF], .bool true]) (by simp [results, Try.results12, y0, y1, y2, go_sem]) rfl (by rw [hndA.out, hRESA.out]; exact FINA.out)
def crossroadsref17_Nth.f (t : List S38) (l : List Int) (a b c n : Int) : Option ((List (List Int)) × (List (List Int)) × (List Bool) × Bool) := if sizesB t = true ∧ l.length ≤ 17592186043904 then some (nthC t l a b c n) else none
theorem crossroadsref17_Nth.calls (A0_0 : Option Addr) (c0_0 : Nat) (l0_0 : List (S38)) (A0_1 : Option Addr) (c0_1 : Nat) (l0_1 : List Int) (a0_2 : Int) (a0_3 : Int) (a0_4 : Int) (a1 : Int) (r1 r2 : List (List Int)) (r3 : List Bool) (r4 : Bool) (w : World) (hr0_0 : Kd.C k38 w A0_0 l0_0.length l0_0) (hc0_0 : l0_0.length ≤ c0_0) (hr0_1 : Kd.C (Kd.int .i64) w A0_1 l0_1.length l0_1) (hc0_1 : l0_1.length ≤ c0_1) (h : crossroadsref17_Nth.f l0_0 l0_1 a0_2 a0_3 a0_4 a1 = some (r1, r2, r3, r4)) :
    Calls Try.prog 12 #[.agg #[.slice A0_0 l0_0.length c0_0, .slice A0_1 l0_1.length c0_1, .int .i64 a0_2, .int .i64 a0_3, .int .i64 a0_4], .int .i64 a1] w fun e w' => ∃ v0_ v1_ v2_ : Value, e = .returned (.tuple #[.agg #[v0_, v1_, v2_], .bool r4]) ∧ Kd.V (Kd.slice 5 (Kd.int .u8)) 42 w' w.heap.size (fun k_ => w.heap.size ≤ k_) v0_ r1 ∧ Kd.V (Kd.slice 5 (Kd.int .u8)) 42 w' w.heap.size (fun k_ => w.heap.size ≤ k_) v1_ r2 ∧ Kd.V Kd.bool 4 w' w.heap.size (fun k_ => w.heap.size ≤ k_) v2_ r3 ∧ Below w.heap.size w w' := by
  unfold crossroadsref17_Nth.f at h
  by_cases hz : sizesB l0_0 = true ∧ l0_1.length ≤ 17592186043904
  · rw [if_pos hz] at h
    injection h with h
    cases hn : noneB l0_0 l0_1 a0_2 a0_3 a0_4 a1
    · have := rnth_some A0_0 c0_0 l0_0 A0_1 c0_1 l0_1 a0_2 a0_3 a0_4 a1 w hr0_0 hc0_0 hr0_1 hc0_1 hz.1 hz.2 hn
      rw [h] at this
      exact this
    · have := rnth_none A0_0 c0_0 l0_0 A0_1 c0_1 l0_1 a0_2 a0_3 a0_4 a1 w hr0_0 hc0_0 hr0_1 hc0_1 hz.1 hz.2 hn
      unfold nthC at h
      rw [hn, if_pos rfl] at h
      rw [h] at this
      exact this
  · rw [if_neg hz] at h; cases h
end Go.Proofs.Ytmlnoapfhimgoaa.G
