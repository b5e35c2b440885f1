/- class.Nth, walked by hand over the contracts of what it calls. -/
import Derived.Test.YtmlnoapfhimgoaaRowsV
import Derived.Deep.DeepCutAuto
import Derived.Deep.CutRange
namespace Go.Proofs.Ytmlnoapfhimgoaa.G
set_option linter.unusedVariables false
set_option linter.unusedSimpArgs false
open Go.RowKit Go.Maps Go.Proofs.Ytmlnoapfhimgoaa.Lem Go.Proofs.Ytmlnoapfhimgoaa.Tree Go.Proofs.Ytmlnoapfhimgoaa.Cls Go.Proofs.YtmlnoapfhimgoaaW.PrintWords Go.Proofs.YtmlnoapfhimgoaaW.PrintLast Go.Proofs.YtmlnoapfhimgoaaW.PrintMore
open Go.Proofs.Ytmlnoapfhimgoaa.P (S38 k38 rd_T38 at_T38)
/-- The texts of a number, from the last cap on. -/
def setL (C : List Int) : Nat → List (List Int) → Int → List (List Int)
  | 0, L, _ => L
  | i + 1, L, n => setL C i (L.set i (textC (n % textsC (rd C i)))) (n / textsC (rd C i))
def nthRow (C : List Int) (n : Int) : List (List Int) := setL C C.length (List.replicate C.length []) n
theorem setL_len (C : List Int) : ∀ (i : Nat) (L : List (List Int)) (n : Int), (setL C i L n).length = L.length
  | 0, L, n => rfl
  | i + 1, L, n => by rw [setL, setL_len C i]; simp
theorem nthRow_len (C : List Int) (n : Int) : (nthRow C n).length = C.length := by unfold nthRow; rw [setL_len]; simp
/-- Is there no input of this number? -/
def noneB (t : List S38) (l : List Int) (a b c n : Int) : Bool := decide (n < 0) || (decide (countC t l a b c ≤ n) || decide (countC t l a b c = 1099511627776))
def nthC (t : List S38) (l : List Int) (a b c n : Int) : List (List Int) × List (List Int) × List Bool × Bool :=
  if noneB t l a b c n = true then ([], [], [], false) else
    ((nthRow (capsC t l) (n / waysC a b)).take (filesL t).length, (nthRow (capsC t l) (n / waysC a b)).drop (filesL t).length, failsC (n % waysC a b) a b, true)
theorem info42 : (Try.prog.info? 42).map (fun i => (i.zero, i.size, i.bytes)) = some (some (.slice none 0 0), 1, 24) := by kernel_rfl
theorem pfiles_calls {t : List S38} {l : List Int} {a b c : Int} (hz : t.length ≤ 4398046511104) : ∃ k, P.class_Files.f k t l a b c = some (filesL t) := (pfiles_is t l a b c hz).rounds
theorem blk_new2 (w : World) (o1 o2 : Obj) : ((w.alloc o1).alloc o2).heap[w.heap.size + 1]? = some o2 := by
  have h := blk_new (w.alloc o1) o2
  have e : (w.alloc o1).heap.size = w.heap.size + 1 := by simp
  rw [e] at h
  exact h
def NthP (w : World) (r : List (List Int) × List (List Int) × List Bool × Bool) (e : Ending) (w' : World) : Prop :=
  ∃ v0_ v1_ v2_ : Value, e = .returned (.tuple #[.agg #[v0_, v1_, v2_], .bool r.2.2.2]) ∧ Kd.V kb 42 w' w.heap.size (fun k_ => w.heap.size ≤ k_) v0_ r.1 ∧ Kd.V kb 42 w' w.heap.size (fun k_ => w.heap.size ≤ k_) v1_ r.2.1 ∧ Kd.V Kd.bool 4 w' w.heap.size (fun k_ => w.heap.size ≤ k_) v2_ r.2.2.1 ∧ Below w.heap.size w w'
set_option maxHeartbeats 8000000 in
set_option maxRecDepth 100000 in
theorem nth_none (A0 : Option Addr) (c0 : Nat) (t : List S38) (A1 : Option Addr) (c1 : Nat) (l : List Int) (a b c n : Int) (w : World) (hr0 : Kd.C k38 w A0 t.length t) (hc0 : t.length ≤ c0) (hr1 : Kd.C (Kd.int .i64) w A1 l.length l) (hc1 : l.length ≤ c1) (hz : sizesB t = true) (hn : noneB t l a b c n = true) :
    Calls Try.prog 11 #[.agg #[.slice A0 t.length c0, .slice A1 l.length c1, .int .i64 a, .int .i64 b, .int .i64 c], .int .i64 n] w fun e w' => NthP w ([], [], [], false) e w' := by
  obtain ⟨kc, hkc⟩ := (count_is t l a b c hz).rounds
  have hcount := fun W (hb : Below w.heap.size w W) => P.class_Count.calls kc A0 c0 t A1 c1 l a b c (countC t l a b c) W (Kd.C_below hr0 hb) hc0 (Kd.C_below hr1 hb) hc1 hkc
  unfold noneB at hn
  generalize countC t l a b c = m at hn hcount
  have HC := Aside0.mk hcount
  clear hcount hkc hr0 hr1 hz
  have fin : ∀ w2, Below w.heap.size w w2 → NthP w ([], [], [], false) (.returned (.tuple #[.agg #[.slice none 0 0, .slice none 0 0, .slice none 0 0], .bool false])) w2 := fun w2 hb => ⟨_, _, _, rfl, Kd.V_nil _ _ _ _ _, Kd.V_nil _ _ _ _ _, Kd.V_nil _ _ _ _ _, hb⟩
  have FIN := Aside0.mk fin
  clear fin
  have hcs : (decide (n < 0) = true) ∨ (decide (n < 0) = false ∧ decide (m ≤ n) = true) ∨ (decide (n < 0) = false ∧ decide (m ≤ n) = false ∧ (m == 1099511627776) = true) := by
    cases h1 : decide (n < 0)
    · cases h2 : decide (m ≤ n)
      · rw [h1, h2] at hn
        refine .inr (.inr ⟨rfl, rfl, beq_iff_eq.mpr ?_⟩)
        simpa using hn
      · exact .inr (.inl ⟨rfl, rfl⟩)
    · exact .inl rfl
  clear hn
  rcases hcs with h1 | ⟨h1, h2⟩ | ⟨h1, h2, h3⟩
  all_goals
    go_enter Try.func11, Try.ntmps11
    go_wp2_with fail
    refine (HC.out _ (below_alloc (below_alloc (Below.refl _ _) _) _)).mono ?_
    rintro e w2 ⟨rfl, hB2⟩
    have K4 := Aside0.mk ((hB2.block (w.heap.size + 1) (by simp)).trans (blk_new2 w _ (.cells #[.slice none 0 0, .slice none 0 0, .slice none 0 0] 31)))
    have B2 := Aside0.mk (below_then (below_alloc (below_alloc (Below.refl _ _) _) _) (by simp; omega) hB2)
    clear hB2 HC
    have z0 := blk_cell K4.out 0
    have z1 := blk_cell K4.out 1
    have z2 := blk_cell K4.out 2
    have f0 := blk_frozen K4.out 0
    have f1 := blk_frozen K4.out 1
    have f2 := blk_frozen K4.out 2
    simp only [List.getElem?_toArray, List.getElem?_cons_zero, List.getElem?_cons_succ] at z0 z1 z2
    have y0 := blk_cell (blk_set K4.out 0 (.slice none 0 0)) 0
    have y1 := blk_cell (blk_set (blk_set K4.out 0 (.slice none 0 0)) 1 (.slice none 0 0)) 1
    have y2 := blk_cell (blk_set (blk_set (blk_set K4.out 0 (.slice none 0 0)) 1 (.slice none 0 0)) 2 (.slice none 0 0)) 2
    have Y0 := Aside0.mk (y0.trans rfl)
    have Y1 := Aside0.mk (y1.trans rfl)
    have Y2 := Aside0.mk (y2.trans rfl)
    clear y0 y1 y2
    go_wp2
    have y0 : _ = some (Value.slice none 0 0) := Y0.out
    have y1 : _ = some (Value.slice none 0 0) := Y1.out
    have y2 : _ = some (Value.slice none 0 0) := Y2.out
    refine bodyPost_ret (v := .tuple #[.agg #[.slice none 0 0, .slice none 0 0, .slice none 0 0], .bool false]) (by simp [results, Try.results11, y0, y1, y2, go_sem]) rfl (FIN.out _ ?_)
    exact (((B2.out.setCell (p := ⟨w.heap.size + 1, 0, none⟩) (by simp) _).setCell (p := ⟨w.heap.size + 1, 1, none⟩) (by simp) _).setCell (p := ⟨w.heap.size + 1, 2, none⟩) (by simp) _)
theorem nth_facts {t : List S38} {l : List Int} {a b c n : Int} (hn : noneB t l a b c n = false) : mayC t l a b c = true ∧ 0 ≤ n ∧ n < countC t l a b c ∧ countC t l a b c ≠ 1099511627776 := by
  unfold noneB at hn
  simp only [Bool.or_eq_false_iff, decide_eq_false_iff_not] at hn
  refine ⟨?_, by omega, by omega, hn.2.2⟩
  cases hm : mayC t l a b c
  · have : countC t l a b c = 0 := by unfold countC; rw [hm]; rfl
    omega
  · rfl
theorem cnt_le (n : Int) (hn : n ≤ 1099511627776) : ∀ C : List Int, ∀ n, n ≤ 1099511627776 → cntC n C ≤ 1099511627776
  | [], n, h => h
  | c :: r, n, h => by
    unfold cntC
    split
    · exact Int.le_refl _
    · rename_i hgt
      have h1 : n ≤ 1099511627776 / textsC c := by omega
      have hp := textsC_pos c
      have h2 := Int.mul_le_mul_of_nonneg_right h1 (show 0 ≤ textsC c by omega)
      have h3 := Int.ediv_mul_le (1099511627776 : Int) (show textsC c ≠ 0 by omega)
      exact cnt_le n (by omega) r _ (by omega)
set_option maxHeartbeats 16000000 in
set_option maxRecDepth 100000 in
theorem nth_some (A0 : Option Addr) (c0 : Nat) (t : List S38) (A1 : Option Addr) (c1 : Nat) (l : List Int) (a b c n : Int) (w : World) (hr0 : Kd.C k38 w A0 t.length t) (hc0 : t.length ≤ c0) (hr1 : Kd.C (Kd.int .i64) w A1 l.length l) (hc1 : l.length ≤ c1) (hz : sizesB t = true) (hn : noneB t l a b c n = false) :
    Calls Try.prog 11 #[.agg #[.slice A0 t.length c0, .slice A1 l.length c1, .int .i64 a, .int .i64 b, .int .i64 c], .int .i64 n] w fun e w' => NthP w (nthC t l a b c n) e w' := by
  obtain ⟨hm, hn0, hn1, hn2⟩ := nth_facts hn
  obtain ⟨b1, b2, b3, b4, b5, b6, b7, _⟩ := may_bounds hm
  have hcl := @caps_len t l
  have hways := ways_is (b := b) b4 (by omega)
  obtain ⟨kc, hkc⟩ := (count_is t l a b c hz).rounds
  have HC := Aside0.mk (fun W (hb : Below w.heap.size w W) => P.class_Count.calls kc A0 c0 t A1 c1 l a b c (countC t l a b c) W (Kd.C_below hr0 hb) hc0 (Kd.C_below hr1 hb) hc1 hkc)
  obtain ⟨kp, hkp⟩ := (pcaps_is t l a b c (by omega) (by omega)).rounds
  have HP := Aside0.mk (fun W (hb : Below w.heap.size w W) => P.class_Caps.calls kp A0 c0 t A1 c1 l a b c (capsC t l) W (Kd.C_below hr0 hb) hc0 (Kd.C_below hr1 hb) hc1 hkp)
  obtain ⟨kf, hkf⟩ := (pfiles_is t l a b c (by omega)).rounds
  have HF := Aside0.mk (fun W (hb : Below w.heap.size w W) => P.class_Files.calls kf A0 c0 t A1 c1 l a b c (filesL t) W (Kd.C_below hr0 hb) hc0 (Kd.C_below hr1 hb) hc1 hkf)
  have HW := Aside0.mk (fun W => P.class_ways.calls 9 a b (waysC a b) W hways.1)
  have hmod : 0 ≤ n % waysC a b ∧ n % waysC a b < waysC a b := ⟨Int.emod_nonneg _ (by omega), Int.emod_lt_of_pos _ (by omega)⟩
  have HX := Aside0.mk (fun W => Q.class_failures.calls 10 (n % waysC a b) a b (failsC (n % waysC a b) a b) W (fails_is b4 b5 hmod))
  have hres : Aside0 (nthC t l a b c n = ((nthRow (capsC t l) (n / waysC a b)).take (filesL t).length, (nthRow (capsC t l) (n / waysC a b)).drop (filesL t).length, failsC (n % waysC a b) a b, true)) := ⟨by unfold nthC; rw [hn]; rfl⟩
  have hcle : countC t l a b c ≤ 1099511627776 := by
    unfold countC
    rw [if_pos hm]
    exact cnt_le 0 (by omega) _ _ (by omega)
  have HB7 := Aside0.mk b7
  have d1 : decide (n < 0) = false := decide_eq_false (by omega)
  have d2 : decide (countC t l a b c ≤ n) = false := decide_eq_false (by omega)
  have d3 : (countC t l a b c == 1099511627776) = false := beq_eq_false_iff_ne.mpr hn2
  have hk0 : 1 ≤ waysC a b := hways.2.2.2 b5.1
  have hk1 : waysC a b ≤ 64 := hways.2.2.1
  have hrn : Aside0 (nthRow (capsC t l) (n / waysC a b) = setL (capsC t l) (capsC t l).length (List.replicate (capsC t l).length []) (n / waysC a b)) := ⟨rfl⟩
  rw [hres.out]
  have HNN := Aside0.mk (show 0 ≤ n / waysC a b from Int.ediv_nonneg hn0 (by omega))
  have HNM := Aside0.mk (show n / waysC a b ≤ 1099511627776 from Int.le_trans (Int.ediv_le_self _ hn0) (by omega))
  generalize countC t l a b c = m at HC d2 d3 hn1
  generalize waysC a b = wy at *
  generalize hfn : (filesL t).length = fn at *
  generalize failsC (n % wy) a b = fl at *
  generalize hCC : capsC t l = CC at *
  have hcb : CC.length ≤ 6 := by omega
  have hfc : fn ≤ CC.length := by omega
  have HCL := Aside0.mk hcl
  clear hcl
  clear hr0 hr1 hz hn hm hn2 hways hkc hkp hkf hres hcle b7 b6
  go_enter Try.func11, Try.ntmps11
  go_wp2_with fail
  refine (HC.out _ (below_alloc (below_alloc (Below.refl _ _) _) _)).mono ?_
  rintro e w2 ⟨rfl, hB2⟩
  have KB2 := Aside0.mk ((hB2.block w.heap.size (by simp; omega)).trans (blk_alloc (blk_new w (.cells #[.slice A0 t.length c0, .slice A1 l.length c1, .int .i64 a, .int .i64 b, .int .i64 c] 25)) (.cells #[.slice none 0 0, .slice none 0 0, .slice none 0 0] 31)))
  have K42 := Aside0.mk ((hB2.block (w.heap.size + 1) (by simp)).trans (blk_new2 w (.cells #[.slice A0 t.length c0, .slice A1 l.length c1, .int .i64 a, .int .i64 b, .int .i64 c] 25) (.cells #[.slice none 0 0, .slice none 0 0, .slice none 0 0] 31)))
  have B2 := Aside0.mk (below_then (below_alloc (below_alloc (Below.refl _ _) _) _) (by simp; omega) hB2)
  have S2 := Aside0.mk (Nat.le_trans (show w.heap.size + 2 ≤ ((w.alloc (.cells #[.slice A0 t.length c0, .slice A1 l.length c1, .int .i64 a, .int .i64 b, .int .i64 c] 25)).alloc (.cells #[.slice none 0 0, .slice none 0 0, .slice none 0 0] 31)).heap.size by simp) hB2.size)
  clear hB2 HC
  have z0 := blk_cell KB2.out 0
  have z1 := blk_cell KB2.out 1
  have z2 := blk_cell KB2.out 2
  have z3 := blk_cell KB2.out 3
  have z4 := blk_cell KB2.out 4
  simp only [List.getElem?_toArray, List.getElem?_cons_zero, List.getElem?_cons_succ] at z0 z1 z2 z3 z4
  go_wp2_with fail
  refine (HW.out _).mono ?_
  rintro e w2x ⟨rfl, ⟨nd, rfl⟩⟩
  go_upto_region 5 with (fail)
  generalize hw3 : w2.drewN nd = w3
  have KB3 := Aside0.mk (show w3.heap[w.heap.size]? = _ from hw3 ▸ blk_drewN KB2.out nd)
  have K43 := Aside0.mk (show w3.heap[w.heap.size + 1]? = _ from hw3 ▸ blk_drewN K42.out nd)
  have B3 := Aside0.mk (show Below w.heap.size w w3 from hw3 ▸ pw_below_drewN B2.out nd)
  have S3 := Aside0.mk (show w.heap.size + 2 ≤ w3.heap.size from hw3 ▸ S2.out)
  clear hw3 KB2 K42 B2 S2 z0 z1 z2 z3 z4
  go_cut [8] (fun s8 wx => ∃ (g8 : Nat) (vF : Value), s8 = .pointer (some ⟨g8, 0, none⟩) ∧ Aside0 (wx.heap[g8]? = some (.cells #[.slice none 0 0, .slice none 0 0, vF] 31 (0, 0))) ∧ Aside0 (Kd.R Kd.bool 4 wx w3.heap.size (fun _ => True) vF fl) ∧ Aside0 (w3.heap.size ≤ g8) ∧ Aside0 (Below w3.heap.size w3 wx))
  case first =>
    have z0 := blk_cell KB3.out 0
    have z1 := blk_cell KB3.out 1
    have z2 := blk_cell KB3.out 2
    have z3 := blk_cell KB3.out 3
    have z4 := blk_cell KB3.out 4
    simp only [List.getElem?_toArray, List.getElem?_cons_zero, List.getElem?_cons_succ] at z0 z1 z2 z3 z4
    have z2' := fun o => blk_cell (blk_alloc KB3.out o) 2
    have z3' := fun o => blk_cell (blk_alloc KB3.out o) 3
    simp only [List.getElem?_toArray, List.getElem?_cons_zero, List.getElem?_cons_succ] at z2' z3'
    have hne : ¬ wy = 0 := by omega
    have hx := HX.out
    rw [← Int.tmod_eq_emod_of_nonneg hn0] at hx
    have HX' := Aside0.mk hx
    clear hx
    go_region_law (refine goes_ (f := 22) (N := some 39) Try.func22 (by kernel_rfl) rfl #[.int .i64 (Int.tmod n wy), .int .i64 a, .int .i64 b] rfl rfl rfl ?harg ?_; (case harg => (simp only [List.map_toArray, List.map_cons, List.map_nil]; rfl)); refine (HX'.out _).mono ?_; rintro e W5 ⟨v5, rfl, hR5, hB5⟩; refine ⟨_, rfl, ?_⟩; obtain ⟨A5, cc5, rfl⟩ := Kd.R_slice hR5; have HB5 := Aside0.mk hB5; have HR5 := Aside0.mk hR5; clear hR5; (try (have k5 := (hB5.block w3.heap.size (by simp)).trans (blk_drew (blk_new w3 (.cells #[.slice none 0 0, .slice none 0 0, .slice none 0 0] 31))); have HK5 := Aside0.mk k5; have c50 := blk_cell k5 0; have c51 := blk_cell k5 1; have c52 := blk_cell k5 2; have f50 := blk_frozen k5 0; have f51 := blk_frozen k5 1; have f52 := blk_frozen k5 2; simp only [List.getElem?_toArray, List.getElem?_cons_zero, List.getElem?_cons_succ] at c50 c51 c52; clear k5)); clear hB5)
    all_goals
      go_wp2_with fail
      go_meet
      first
        | (have HB5' : Below w3.heap.size w3 W5 := below_then (below_drew (Below.refl _ _)) (Nat.le_refl _) HB5.out
           exact ⟨W5.heap.size, .slice A5 fl.length cc5, rfl, ⟨blk_new W5 _⟩, ⟨Kd.R_alloc HR5.out _⟩, ⟨HB5'.size⟩, ⟨below_alloc' HB5' HB5'.size _⟩⟩)
        | (have HB5' : Below w3.heap.size w3 W5 := below_then (below_drew (below_alloc (Below.refl _ _) _)) (by simp) HB5.out
           exact ⟨w3.heap.size, .slice A5 fl.length cc5, rfl, ⟨blk_set (blk_set (blk_set HK5.out 0 _) 1 _) 2 _⟩, ⟨Kd.R_lower (Kd.R_set (Kd.R_set (Kd.R_set HR5.out HK5.out (by simp [Kd.bool, Kd.scalar]) 0 _) (blk_set HK5.out 0 _) (by simp [Kd.bool, Kd.scalar]) 1 _) (blk_set (blk_set HK5.out 0 _) 1 _) (by simp [Kd.bool, Kd.scalar]) 2 _) (by simp)⟩, ⟨Nat.le_refl _⟩, ⟨((HB5'.setCell (p := ⟨w3.heap.size, 0, none⟩) (Nat.le_refl _) _).setCell (p := ⟨w3.heap.size, 1, none⟩) (Nat.le_refl _) _).setCell (p := ⟨w3.heap.size, 2, none⟩) (Nat.le_refl _) _⟩⟩)
  case rest =>
    obtain ⟨g8, vF, rfl, K8, RF, G8, BX⟩ := hcut
    obtain ⟨AF, cF, rfl⟩ := Kd.R_slice RF.out
    have KB4 := Aside0.mk ((BX.out.block _ (blk_lt KB3.out)).trans KB3.out)
    have K44 := Aside0.mk ((BX.out.block _ (blk_lt K43.out)).trans K43.out)
    have B4 := Aside0.mk (below_then B3.out (by have := S3.out; omega) BX.out)
    have S4 := Aside0.mk (Nat.le_trans S3.out BX.out.size)
    have G8' := Aside0.mk (Nat.le_trans S3.out G8.out)
    have RF4 := Aside0.mk (Kd.R_lower RF.out (show w.heap.size + 2 ≤ w3.heap.size from S3.out))
    clear KB3 K43 B3 S3 BX G8 RF
    have z0 := blk_cell KB4.out 0
    have z1 := blk_cell KB4.out 1
    have z2 := blk_cell KB4.out 2
    have z3 := blk_cell KB4.out 3
    have z4 := blk_cell KB4.out 4
    simp only [List.getElem?_toArray, List.getElem?_cons_zero, List.getElem?_cons_succ] at z0 z1 z2 z3 z4
    have hne : ¬ wy = 0 := by omega
    have hdv : Int.tdiv n wy = n / wy := Int.tdiv_eq_ediv_of_nonneg hn0
    have hd0 := HNN.out
    have hd1 := HNM.out
    generalize hnd : n / wy = nd0 at *
    have hww : wrap64 nd0 = nd0 := by unfold wrap64; omega
    have hndA := Aside0.mk hnd
    clear hnd
    go_wp2_with fail
    refine (HP.out _ B4.out).mono ?_
    rintro e w5 ⟨vC, rfl, hRC, hB5⟩
    obtain ⟨AC, cC, rfl, hcC, hCC5⟩ := Kd.R_reads hRC
    have C5 := Aside0.mk hCC5
    have KB5 := Aside0.mk ((hB5.block _ (blk_lt KB4.out)).trans KB4.out)
    have K45 := Aside0.mk ((hB5.block _ (blk_lt K44.out)).trans K44.out)
    have K85 := Aside0.mk ((hB5.block _ (blk_lt K8.out)).trans K8.out)
    have RF5 := Aside0.mk (Kd.R_below RF4.out hB5)
    have B5 := Aside0.mk (below_then B4.out (by have := S4.out; omega) hB5)
    have S5 := Aside0.mk (Nat.le_trans S4.out hB5.size)
    clear hRC hCC5 hB5 KB4 K44 K8 RF4 B4 S4 z0 z1 z2 z3 z4
    have hmk := run_make_row' (P := Try.prog) 28 42 (.slice none 0 0) 24 Try.underlying28 info42 rfl .i64 .i64 CC.length (by omega) (by omega)
    have hRV := RowsV.made w5 w5.heap.size CC.length (Nat.le_refl _)
    have RV := Aside0.mk hRV
    clear hRV
    have hres0 : Aside0 (setL CC CC.length (List.replicate CC.length []) nd0 = nthRow CC nd0) := ⟨rfl⟩
    generalize hRES : nthRow CC nd0 = RES at *
    have hRESl : Aside0 (RES.length = CC.length) := ⟨by rw [← hRES, nthRow_len]⟩
    have hRESA := Aside0.mk hRES
    clear hRES hrn
    go_wp2
    go_loopg [1, 11] CC.length (fun kq v1 v11 w' => ∃ (x i : Int) (cs : List Value) (L : List (List Int)), v1 = .int .i64 x ∧ v11 = .int .i64 i ∧ Aside0 (0 ≤ x ∧ x ≤ 1099511627776 ∧ -1 ≤ i ∧ (kq : Int) = i + 1 ∧ i < CC.length ∧ L.length = CC.length) ∧ Aside0 (setL CC (i + 1).toNat L x = RES) ∧ Aside0 (RowsV w' w5.heap.size w5.heap.size cs L) ∧ Aside0 (Below w5.heap.size w5 w'))
    case atStart =>
      exact ⟨nd0, (CC.length : Int) - 1, _, _, rfl, rfl, ⟨by simp; omega⟩, ⟨by rw [show ((CC.length : Int) - 1 + 1).toNat = CC.length by omega]; exact hres0.out⟩, RV, ⟨below_alloc (Below.refl _ _) _⟩⟩
    case round =>
      clear hres0 RV hmk
      obtain ⟨x, i, cs, L, rfl, rfl, HI, HL, HV, HB⟩ := hrel
      have hI := HI.out
      by_cases hi0 : 0 ≤ i
      · obtain ⟨k1, rfl⟩ : ∃ k1, gk = k1 + 1 := ⟨gk - 1, by omega⟩
        have hlt : i < (CC.length : Int) := by omega
        have di : decide (0 ≤ i) = true := decide_eq_true hi0
        obtain ⟨ay, ey, hy5⟩ := Kd.at_int C5.out i hi0 hlt
        obtain ⟨y, hyy⟩ : ∃ y, rd CC i = y := ⟨_, rfl⟩
        have hym : y ∈ CC := by
          rw [← hyy]; unfold rd
          rw [List.getD_eq_getElem?_getD, List.getElem?_eq_getElem (show i.toNat < CC.length by omega)]
          exact List.getElem_mem _
        have hyb := HB7.out y hym
        have hL := HL.out
        rw [show (i + 1).toNat = i.toNat + 1 by omega, setL, show ((i.toNat : Nat) : Int) = i by omega, hyy] at hL
        rw [hyy] at hy5
        cases ey
        have hy := (HB.out.cell (World.block_lt_of_cell? w5 _ hy5)).trans hy5
        have htx := fun W => P.class_texts.calls 9 y (textsC y) W (texts_is hyb).1
        have htp := textsC_pos y
        have hmb : 0 ≤ x % textsC y ∧ x % textsC y < 16843009 := ⟨Int.emod_nonneg _ (by omega), by have := Int.emod_lt_of_pos x (show 0 < textsC y by omega); omega⟩
        have htt := fun W => Q.class_text.calls 20 (x % textsC y) (textC (x % textsC y)) W (text_is hmb)
        have hdb : 0 ≤ x / textsC y ∧ x / textsC y ≤ 1099511627776 := ⟨Int.ediv_nonneg hI.1 (by omega), Int.le_trans (Int.ediv_le_self _ hI.1) hI.2.1⟩
        generalize textsC y = ty at *
        have hmm : Int.tmod x ty = x % ty := Int.tmod_eq_emod_of_nonneg hI.1
        have hdd : Int.tdiv x ty = x / ty := Int.tdiv_eq_ediv_of_nonneg hI.1
        have hty : ¬ ty = 0 := by omega
        generalize hq : x / ty = q at *
        generalize textC (x % ty) = tx at *
        generalize hm : x % ty = mm at *
        have hwq : wrap64 q = q := by unfold wrap64; omega
        have pi : 0 ≤ i ∧ i < (CC.length : Int) := ⟨hi0, hlt⟩
        have TX := Aside0.mk htx
        have TT := Aside0.mk htt
        have HLA := Aside0.mk hL
        have HS := Aside0.mk S5.out
        clear htx htt hL hyy hym hyb hq hm HL htp hmb
        have hwi : wrap64 (i - 1) = i - 1 := by unfold wrap64; omega
        go_wp2_with fail
        refine (TX.out _).mono ?_
        rintro e w6 ⟨rfl, ⟨nd, rfl⟩⟩
        go_wp2_with fail
        refine (TT.out _).mono ?_
        rintro e w7 ⟨vt, rfl, hRt, hB7⟩
        have hg7 : w5.heap.size < (World.drewN wr nd).heap.size := blk_lt HV.out.1
        have V7 := Aside0.mk (V_of_R (base := w5.heap.size) (g := w5.heap.size) hRt (Nat.le_of_lt hg7) hg7)
        have HV7 := Aside0.mk ((HV.out.below (pw_below_drewN (Below.refl _ _) nd)).below hB7)
        have HB7' := Aside0.mk (below_then (pw_below_drewN HB.out nd) (Nat.le_of_lt hg7) hB7)
        obtain ⟨⟨vo, hvo⟩, hfz⟩ := RowsV.cell HV7.out i.toNat (by omega)
        obtain ⟨At, ct, rfl⟩ := Kd.R_slice hRt
        have hy7 := pw_cell_below (pw_below_drewN (Below.refl wr.heap.size wr) nd) hy
        replace hy7 := pw_cell_below hB7 hy7
        have hys : ∀ v, (w7.setCell ⟨w5.heap.size, i.toNat, none⟩ v).cell? (ay.add i.toNat) = some (.int .i64 y) := fun v => (((Below.refl w5.heap.size w7).setCell (p := ⟨w5.heap.size, i.toNat, none⟩) (Nat.le_refl _) v).cell (World.block_lt_of_cell? w5 _ hy5)).trans hy7
        clear hy5
        clear hRt hB7 hg7
        go_wp2_with fail
        refine (TX.out _).mono ?_
        rintro e w8 ⟨rfl, ⟨ne, rfl⟩⟩
        go_wp2
        go_roundg k1
        case measure => omega
        case rel => exact ⟨q, i - 1, _, _, rfl, rfl, ⟨by rw [List.length_set]; omega⟩, ⟨by rw [show (i - 1 + 1).toNat = i.toNat by omega]; exact HLA.out⟩, ⟨(HV7.out.put i.toNat V7.out).below (pw_below_drewN (Below.refl _ _) ne)⟩, ⟨pw_below_drewN (HB7'.out.setCell (p := ⟨w5.heap.size, i.toNat, none⟩) (Nat.le_refl _) _) ne⟩⟩
      · have hie : i = -1 := by omega
        subst hie
        have hLe : L = RES := HL.out
        subst hLe
        have KBr := Aside0.mk ((HB.out.block _ (blk_lt KB5.out)).trans KB5.out)
        have Bwr := Aside0.mk (below_then B5.out (by have := S5.out; omega) HB.out)
        have z0 := blk_cell KBr.out 0
        have z1 := blk_cell KBr.out 1
        have z2 := blk_cell KBr.out 2
        have z3 := blk_cell KBr.out 3
        have z4 := blk_cell KBr.out 4
        simp only [List.getElem?_toArray, List.getElem?_cons_zero, List.getElem?_cons_succ] at z0 z1 z2 z3 z4
        go_wp2_with fail
        refine (HF.out _ Bwr.out).mono ?_
        rintro e w9 ⟨vf, rfl, hRf, hB9⟩
        obtain ⟨Af, cf, rfl⟩ := Kd.R_slice hRf
        rw [hfn]
        have hB59 : Below w5.heap.size w5 w9 := below_then HB.out HB.out.size hB9
        have HV9 := Aside0.mk (HV.out.below hB9)
        have K49 := Aside0.mk ((hB59.block _ (blk_lt K45.out)).trans K45.out)
        have K89 := Aside0.mk ((hB59.block _ (blk_lt K85.out)).trans K85.out)
        have RF9 := Aside0.mk (Kd.R_below RF5.out hB59)
        have B9 := Aside0.mk (below_then Bwr.out (by have := Bwr.out.size; omega) hB9)
        have g85 := blk_lt K85.out
        have g45 := blk_lt K45.out
        have q0 := blk_cell K89.out 0
        have q1 := blk_cell K89.out 1
        have q2 := blk_cell K89.out 2
        have p0 := blk_frozen K89.out 0
        have p1 := blk_frozen K89.out 1
        simp only [List.getElem?_toArray, List.getElem?_cons_zero, List.getElem?_cons_succ] at q0 q1 q2
        clear hRf hB9 z0 z1 z2 z3 z4
        go_wp2_with fail
        by_cases hfe : CC.length = fn
        · go_region
          have hS : ∀ sb : Value, (∀ W, Below w5.heap.size w5 W → True) → True := fun _ _ => trivial
          generalize hWA : World.drew _ = wA
          have KA8 : wA.heap[g8]? = some (.cells #[.slice (some ⟨w5.heap.size, 0, none⟩) fn fn, (Value.slice (some ⟨w5.heap.size, 0, none⟩) 0 0), .slice AF fl.length cF] 31 (0, 0)) := hWA ▸ blk_drew (blk_set (blk_set K89.out 0 (.slice (some ⟨w5.heap.size, 0, none⟩) fn fn)) 1 (Value.slice (some ⟨w5.heap.size, 0, none⟩) 0 0))
          have g84 : w.heap.size + 1 ≠ g8 := by have := G8'.out; omega
          have KA4 : wA.heap[w.heap.size + 1]? = some (.cells #[.slice none 0 0, .slice none 0 0, .slice none 0 0] 31 (0, 0)) := hWA ▸ blk_drew (blk_far (p := ⟨g8, 1, none⟩) (blk_far (p := ⟨g8, 0, none⟩) K49.out g84 _) g84 _)
          have BA : Below w.heap.size w wA := hWA ▸ below_drew ((B9.out.setCell (p := ⟨g8, 0, none⟩) (show w.heap.size ≤ g8 by have := G8'.out; omega) _).setCell (p := ⟨g8, 1, none⟩) (show w.heap.size ≤ g8 by have := G8'.out; omega) _)
          have hRF1 : Kd.R Kd.bool 4 wA (w.heap.size + 2) (fun _ => True) (.slice AF fl.length cF) fl := hWA ▸ Kd.R_drew (Kd.R_set (Kd.R_set RF9.out K89.out (by simp [Kd.bool, Kd.scalar]) 0 _) (blk_set K89.out 0 _) (by simp [Kd.bool, Kd.scalar]) 1 _)
          have hF9 := HV9.out.read (by omega)
          have hLc : L.length = CC.length := hI.2.2.2.2.2
          have hV0 : Kd.V kb 42 w9 w.heap.size (fun k => w5.heap.size ≤ k) (.slice (some ⟨w5.heap.size, 0, none⟩) fn fn) (L.take fn) := by
            have h := Kd.V_mk (e := 42) (base := w.heap.size) (c := fn) (by rw [List.length_take]; omega) (Kd.F_take (m := fn) hF9 (by omega))
            rw [List.length_take, show min fn L.length = fn by omega] at h
            exact h
          have hV1 : Kd.V kb 42 w9 w.heap.size (fun k => w5.heap.size ≤ k) (Value.slice (some ⟨w5.heap.size, 0, none⟩) 0 0) (L.drop fn) := by
            have h0 : L.drop fn = [] := List.drop_of_length_le (by omega)
            rw [h0]
            have h := Kd.V_mk (xs := ([] : List (List Int))) (e := 42) (base := w.heap.size) (c := 0) (by simp) (Kd.F_imp (A' := some ⟨w5.heap.size, 0, none⟩) (d' := kb) (n' := 0) (xs' := []) hF9 (fun W' hC => ⟨rfl, by simp, fun h => absurd h (by simp)⟩))
            exact h
          have hVA : ∀ (v : Value) (x : List (List Int)), Kd.V kb 42 w9 w.heap.size (fun k => w5.heap.size ≤ k) v x → Kd.V kb 42 wA w.heap.size (fun k => w5.heap.size ≤ k) v x := fun v x h => hWA ▸ Kd.V_drew (Kd.V_far (p := ⟨g8, 1, none⟩) (Kd.V_far (p := ⟨g8, 0, none⟩) h (fun k hk => by have h_ : w5.heap.size ≤ k := hk; show k ≠ g8; omega) _) (fun k hk => by have h_ : w5.heap.size ≤ k := hk; show k ≠ g8; omega) _)
          have hVB : ∀ (v : Value) (x : List (List Int)) (u0 u1 u2 : Value), Kd.V kb 42 wA w.heap.size (fun k => w5.heap.size ≤ k) v x → Kd.V kb 42 (((wA.setCell ⟨w.heap.size + 1, 0, none⟩ u0).setCell ⟨w.heap.size + 1, 1, none⟩ u1).setCell ⟨w.heap.size + 1, 2, none⟩ u2) w.heap.size (fun k => w.heap.size ≤ k) v x := fun v x u0 u1 u2 h =>
            Kd.V_mono (Kd.V_far (p := ⟨w.heap.size + 1, 2, none⟩) (Kd.V_far (p := ⟨w.heap.size + 1, 1, none⟩) (Kd.V_far (p := ⟨w.heap.size + 1, 0, none⟩) h (fun k hk => by have h_ : w5.heap.size ≤ k := hk; show k ≠ w.heap.size + 1; have := S5.out; omega) _) (fun k hk => by have h_ : w5.heap.size ≤ k := hk; show k ≠ w.heap.size + 1; have := S5.out; omega) _) (fun k hk => by have h_ : w5.heap.size ≤ k := hk; show k ≠ w.heap.size + 1; have := S5.out; omega) _) (fun k hk => by have h_ : w5.heap.size ≤ k := hk; have := S5.out; show w.heap.size ≤ k; omega)
          have FINA : Aside0 (NthP w (L.take fn, L.drop fn, fl, true) (.returned (.tuple #[.agg #[.slice (some ⟨w5.heap.size, 0, none⟩) fn fn, (Value.slice (some ⟨w5.heap.size, 0, none⟩) 0 0), .slice AF fl.length cF], .bool true])) (((wA.setCell ⟨w.heap.size + 1, 0, none⟩ (.slice (some ⟨w5.heap.size, 0, none⟩) fn fn)).setCell ⟨w.heap.size + 1, 1, none⟩ (Value.slice (some ⟨w5.heap.size, 0, none⟩) 0 0)).setCell ⟨w.heap.size + 1, 2, none⟩ (.slice AF fl.length cF))) := ⟨_, _, _, rfl, hVB _ _ _ _ _ (hVA _ _ hV0), hVB _ _ _ _ _ (hVA _ _ hV1), V_of_R' (Kd.R_set (Kd.R_set (Kd.R_set hRF1 KA4 (by simp [Kd.bool, Kd.scalar]) 0 _) (blk_set KA4 0 _) (by simp [Kd.bool, Kd.scalar]) 1 _) (blk_set (blk_set KA4 0 _) 1 _) (by simp [Kd.bool, Kd.scalar]) 2 _) (by omega), ((BA.setCell (p := ⟨w.heap.size + 1, 0, none⟩) (by simp) _).setCell (p := ⟨w.heap.size + 1, 1, none⟩) (by simp) _).setCell (p := ⟨w.heap.size + 1, 2, none⟩) (by simp) _⟩
          have y0 := (blk_cell (blk_set KA4 0 (.slice (some ⟨w5.heap.size, 0, none⟩) fn fn)) 0).trans rfl
          have y1 := (blk_cell (blk_set (blk_set KA4 0 (.slice (some ⟨w5.heap.size, 0, none⟩) fn fn)) 1 (Value.slice (some ⟨w5.heap.size, 0, none⟩) 0 0)) 1).trans rfl
          have y2 := (blk_cell (blk_set (blk_set (blk_set KA4 0 (.slice (some ⟨w5.heap.size, 0, none⟩) fn fn)) 1 (Value.slice (some ⟨w5.heap.size, 0, none⟩) 0 0)) 2 (.slice AF fl.length cF)) 2).trans rfl
          have Y0 := Aside0.mk y0
          have Y1 := Aside0.mk y1
          have Y2 := Aside0.mk y2
          have a0 := blk_cell KA8 0
          have a1 := blk_cell KA8 1
          have a2 := blk_cell KA8 2
          have r0 := blk_cell KA4 0
          have r1 := blk_cell KA4 1
          have r2 := blk_cell KA4 2
          have s0 := blk_frozen KA4 0
          have s1 := blk_frozen KA4 1
          have s2 := blk_frozen KA4 2
          simp only [List.getElem?_toArray, List.getElem?_cons_zero, List.getElem?_cons_succ] at a0 a1 a2 r0 r1 r2
          clear y0 y1 y2 KA8 KA4 BA hRF1 hF9 hV0 hV1 hVA hVB hWA q0 q1 q2 p0 p1 hS
          go_wp2
          have y0 : _ = some (Value.slice (some ⟨w5.heap.size, 0, none⟩) fn fn) := Y0.out
          have y1 : _ = some (Value.slice (some ⟨w5.heap.size, 0, none⟩) 0 0) := Y1.out
          have y2 : _ = some (Value.slice AF fl.length cF) := Y2.out
          exact bodyPost_ret (v := .tuple #[.agg #[.slice (some ⟨w5.heap.size, 0, none⟩) fn fn, (Value.slice (some ⟨w5.heap.size, 0, none⟩) 0 0), .slice AF fl.length cF], .bool true]) (by simp [results, Try.results11, y0, y1, y2, go_sem]) rfl (by rw [hndA.out, hRESA.out]; exact FINA.out)
        · go_region
          have hS : ∀ sb : Value, (∀ W, Below w5.heap.size w5 W → True) → True := fun _ _ => trivial
          generalize hWA : World.drew _ = wA
          have KA8 : wA.heap[g8]? = some (.cells #[.slice (some ⟨w5.heap.size, 0, none⟩) fn fn, (Value.slice (some ⟨w5.heap.size, fn, none⟩) (CC.length - fn) (CC.length - fn)), .slice AF fl.length cF] 31 (0, 0)) := hWA ▸ blk_drew (blk_set (blk_set K89.out 0 (.slice (some ⟨w5.heap.size, 0, none⟩) fn fn)) 1 (Value.slice (some ⟨w5.heap.size, fn, none⟩) (CC.length - fn) (CC.length - fn)))
          have g84 : w.heap.size + 1 ≠ g8 := by have := G8'.out; omega
          have KA4 : wA.heap[w.heap.size + 1]? = some (.cells #[.slice none 0 0, .slice none 0 0, .slice none 0 0] 31 (0, 0)) := hWA ▸ blk_drew (blk_far (p := ⟨g8, 1, none⟩) (blk_far (p := ⟨g8, 0, none⟩) K49.out g84 _) g84 _)
          have BA : Below w.heap.size w wA := hWA ▸ below_drew ((B9.out.setCell (p := ⟨g8, 0, none⟩) (show w.heap.size ≤ g8 by have := G8'.out; omega) _).setCell (p := ⟨g8, 1, none⟩) (show w.heap.size ≤ g8 by have := G8'.out; omega) _)
          have hRF1 : Kd.R Kd.bool 4 wA (w.heap.size + 2) (fun _ => True) (.slice AF fl.length cF) fl := hWA ▸ Kd.R_drew (Kd.R_set (Kd.R_set RF9.out K89.out (by simp [Kd.bool, Kd.scalar]) 0 _) (blk_set K89.out 0 _) (by simp [Kd.bool, Kd.scalar]) 1 _)
          have hF9 := HV9.out.read (by omega)
          have hLc : L.length = CC.length := hI.2.2.2.2.2
          have hV0 : Kd.V kb 42 w9 w.heap.size (fun k => w5.heap.size ≤ k) (.slice (some ⟨w5.heap.size, 0, none⟩) fn fn) (L.take fn) := by
            have h := Kd.V_mk (e := 42) (base := w.heap.size) (c := fn) (by rw [List.length_take]; omega) (Kd.F_take (m := fn) hF9 (by omega))
            rw [List.length_take, show min fn L.length = fn by omega] at h
            exact h
          have hV1 : Kd.V kb 42 w9 w.heap.size (fun k => w5.heap.size ≤ k) (Value.slice (some ⟨w5.heap.size, fn, none⟩) (CC.length - fn) (CC.length - fn)) (L.drop fn) := by
            have h := Kd.V_mk (e := 42) (base := w.heap.size) (c := CC.length - fn) (by rw [List.length_drop]; omega) (Kd.F_cut (m := fn) (c := CC.length) hF9 (by omega) (by omega))
            rw [if_neg hfe, List.length_drop, hLc] at h
            rw [show (Option.map (fun x => Addr.add x (fn * kb.sz)) (some (⟨w5.heap.size, 0, none⟩ : Addr))) = some (⟨w5.heap.size, fn, none⟩ : Addr) from congrArg some ((congrArg _ (Nat.mul_one fn)).trans (add_plain _ _))] at h
            exact h
          have hVA : ∀ (v : Value) (x : List (List Int)), Kd.V kb 42 w9 w.heap.size (fun k => w5.heap.size ≤ k) v x → Kd.V kb 42 wA w.heap.size (fun k => w5.heap.size ≤ k) v x := fun v x h => hWA ▸ Kd.V_drew (Kd.V_far (p := ⟨g8, 1, none⟩) (Kd.V_far (p := ⟨g8, 0, none⟩) h (fun k hk => by have h_ : w5.heap.size ≤ k := hk; show k ≠ g8; omega) _) (fun k hk => by have h_ : w5.heap.size ≤ k := hk; show k ≠ g8; omega) _)
          have hVB : ∀ (v : Value) (x : List (List Int)) (u0 u1 u2 : Value), Kd.V kb 42 wA w.heap.size (fun k => w5.heap.size ≤ k) v x → Kd.V kb 42 (((wA.setCell ⟨w.heap.size + 1, 0, none⟩ u0).setCell ⟨w.heap.size + 1, 1, none⟩ u1).setCell ⟨w.heap.size + 1, 2, none⟩ u2) w.heap.size (fun k => w.heap.size ≤ k) v x := fun v x u0 u1 u2 h =>
            Kd.V_mono (Kd.V_far (p := ⟨w.heap.size + 1, 2, none⟩) (Kd.V_far (p := ⟨w.heap.size + 1, 1, none⟩) (Kd.V_far (p := ⟨w.heap.size + 1, 0, none⟩) h (fun k hk => by have h_ : w5.heap.size ≤ k := hk; show k ≠ w.heap.size + 1; have := S5.out; omega) _) (fun k hk => by have h_ : w5.heap.size ≤ k := hk; show k ≠ w.heap.size + 1; have := S5.out; omega) _) (fun k hk => by have h_ : w5.heap.size ≤ k := hk; show k ≠ w.heap.size + 1; have := S5.out; omega) _) (fun k hk => by have h_ : w5.heap.size ≤ k := hk; have := S5.out; show w.heap.size ≤ k; omega)
          have FINA : Aside0 (NthP w (L.take fn, L.drop fn, fl, true) (.returned (.tuple #[.agg #[.slice (some ⟨w5.heap.size, 0, none⟩) fn fn, (Value.slice (some ⟨w5.heap.size, fn, none⟩) (CC.length - fn) (CC.length - fn)), .slice AF fl.length cF], .bool true])) (((wA.setCell ⟨w.heap.size + 1, 0, none⟩ (.slice (some ⟨w5.heap.size, 0, none⟩) fn fn)).setCell ⟨w.heap.size + 1, 1, none⟩ (Value.slice (some ⟨w5.heap.size, fn, none⟩) (CC.length - fn) (CC.length - fn))).setCell ⟨w.heap.size + 1, 2, none⟩ (.slice AF fl.length cF))) := ⟨_, _, _, rfl, hVB _ _ _ _ _ (hVA _ _ hV0), hVB _ _ _ _ _ (hVA _ _ hV1), V_of_R' (Kd.R_set (Kd.R_set (Kd.R_set hRF1 KA4 (by simp [Kd.bool, Kd.scalar]) 0 _) (blk_set KA4 0 _) (by simp [Kd.bool, Kd.scalar]) 1 _) (blk_set (blk_set KA4 0 _) 1 _) (by simp [Kd.bool, Kd.scalar]) 2 _) (by omega), ((BA.setCell (p := ⟨w.heap.size + 1, 0, none⟩) (by simp) _).setCell (p := ⟨w.heap.size + 1, 1, none⟩) (by simp) _).setCell (p := ⟨w.heap.size + 1, 2, none⟩) (by simp) _⟩
          have y0 := (blk_cell (blk_set KA4 0 (.slice (some ⟨w5.heap.size, 0, none⟩) fn fn)) 0).trans rfl
          have y1 := (blk_cell (blk_set (blk_set KA4 0 (.slice (some ⟨w5.heap.size, 0, none⟩) fn fn)) 1 (Value.slice (some ⟨w5.heap.size, fn, none⟩) (CC.length - fn) (CC.length - fn))) 1).trans rfl
          have y2 := (blk_cell (blk_set (blk_set (blk_set KA4 0 (.slice (some ⟨w5.heap.size, 0, none⟩) fn fn)) 1 (Value.slice (some ⟨w5.heap.size, fn, none⟩) (CC.length - fn) (CC.length - fn))) 2 (.slice AF fl.length cF)) 2).trans rfl
          have Y0 := Aside0.mk y0
          have Y1 := Aside0.mk y1
          have Y2 := Aside0.mk y2
          have a0 := blk_cell KA8 0
          have a1 := blk_cell KA8 1
          have a2 := blk_cell KA8 2
          have r0 := blk_cell KA4 0
          have r1 := blk_cell KA4 1
          have r2 := blk_cell KA4 2
          have s0 := blk_frozen KA4 0
          have s1 := blk_frozen KA4 1
          have s2 := blk_frozen KA4 2
          simp only [List.getElem?_toArray, List.getElem?_cons_zero, List.getElem?_cons_succ] at a0 a1 a2 r0 r1 r2
          clear y0 y1 y2 KA8 KA4 BA hRF1 hF9 hV0 hV1 hVA hVB hWA q0 q1 q2 p0 p1 hS
          go_wp2
          have y0 : _ = some (Value.slice (some ⟨w5.heap.size, 0, none⟩) fn fn) := Y0.out
          have y1 : _ = some (Value.slice (some ⟨w5.heap.size, fn, none⟩) (CC.length - fn) (CC.length - fn)) := Y1.out
          have y2 : _ = some (Value.slice AF fl.length cF) := Y2.out
          exact bodyPost_ret (v := .tuple #[.agg #[.slice (some ⟨w5.heap.size, 0, none⟩) fn fn, (Value.slice (some ⟨w5.heap.size, fn, none⟩) (CC.length - fn) (CC.length - fn)), .slice AF fl.length cF], .bool true]) (by simp [results, Try.results11, y0, y1, y2, go_sem]) rfl (by rw [hndA.out, hRESA.out]; exact FINA.out)
def class_Nth.f (t : List S38) (l : List Int) (a b c n : Int) : Option ((List (List Int)) × (List (List Int)) × (List Bool) × Bool) := if sizesB t = true then some (nthC t l a b c n) else none
theorem class_Nth.calls (A0_0 : Option Addr) (c0_0 : Nat) (l0_0 : List (S38)) (A0_1 : Option Addr) (c0_1 : Nat) (l0_1 : List Int) (a0_2 : Int) (a0_3 : Int) (a0_4 : Int) (a1 : Int) (r1 r2 : List (List Int)) (r3 : List Bool) (r4 : Bool) (w : World) (hr0_0 : Kd.C k38 w A0_0 l0_0.length l0_0) (hc0_0 : l0_0.length ≤ c0_0) (hr0_1 : Kd.C (Kd.int .i64) w A0_1 l0_1.length l0_1) (hc0_1 : l0_1.length ≤ c0_1) (h : class_Nth.f l0_0 l0_1 a0_2 a0_3 a0_4 a1 = some (r1, r2, r3, r4)) :
    Calls Try.prog 11 #[.agg #[.slice A0_0 l0_0.length c0_0, .slice A0_1 l0_1.length c0_1, .int .i64 a0_2, .int .i64 a0_3, .int .i64 a0_4], .int .i64 a1] w fun e w' => ∃ v0_ v1_ v2_ : Value, e = .returned (.tuple #[.agg #[v0_, v1_, v2_], .bool r4]) ∧ Kd.V (Kd.slice 5 (Kd.int .u8)) 42 w' w.heap.size (fun k_ => w.heap.size ≤ k_) v0_ r1 ∧ Kd.V (Kd.slice 5 (Kd.int .u8)) 42 w' w.heap.size (fun k_ => w.heap.size ≤ k_) v1_ r2 ∧ Kd.V Kd.bool 4 w' w.heap.size (fun k_ => w.heap.size ≤ k_) v2_ r3 ∧ Below w.heap.size w w' := by
  unfold class_Nth.f at h
  by_cases hz : sizesB l0_0 = true
  · rw [if_pos hz] at h
    injection h with h
    cases hn : noneB l0_0 l0_1 a0_2 a0_3 a0_4 a1
    · have := nth_some A0_0 c0_0 l0_0 A0_1 c0_1 l0_1 a0_2 a0_3 a0_4 a1 w hr0_0 hc0_0 hr0_1 hc0_1 hz hn
      rw [h] at this
      exact this
    · have := nth_none A0_0 c0_0 l0_0 A0_1 c0_1 l0_1 a0_2 a0_3 a0_4 a1 w hr0_0 hc0_0 hr0_1 hc0_1 hz hn
      unfold nthC at h
      rw [hn, if_pos rfl] at h
      rw [h] at this
      exact this
  · rw [if_neg hz] at h; cases h
end Go.Proofs.Ytmlnoapfhimgoaa.G
