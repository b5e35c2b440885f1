-- Laid by a program of this session (the kit's print, changed): Lean checks it.
import Derived.Test.YtmlnoapfhimgoaaPx0
import Derived.Test.YtmlnoapfhimgoaaPx1
import Derived.Test.YtmlnoapfhimgoaaGMay
namespace Go.Proofs.Ytmlnoapfhimgoaa.G
end Go.Proofs.Ytmlnoapfhimgoaa.G
namespace Go.Proofs.Ytmlnoapfhimgoaa.P
open Go.Proofs.Ytmlnoapfhimgoaa.G
open Go.RowKit Go.Proofs.YtmlnoapfhimgoaaW.PrintWords Go.Proofs.YtmlnoapfhimgoaaW.PrintLast Go.Proofs.YtmlnoapfhimgoaaW.PrintMore
attribute [local go_sem] max2_int min2_int max_two min_two max_three min_three max_four min_four   -- for this text's walks alone
set_option linter.unusedVariables false
set_option linter.unusedSimpArgs false

/-! ### class_Has: function 19 -/
mutual
def class_Has.j0 : Nat → Int → Bool → List (S38) → List Int → Int → Int → Int → List (List Int) → List (List Int) → List Bool → Option (Bool)
  | 0, _, _, _, _, _, _, _, _, _, _ => none
  | k + 1, x5, x39, x132000, x132001, x132002, x132003, x132004, x133000, x133001, x133002 => if x39 = true then (some false) else ((class_Caps.f k x132000 x132001 x132002 x132003 x132004).bind fun t138 => (class_Has.l0 k x5 t138 (t138.length : Int) 0 x133000 x133001 x133002))
def class_Has.l0 : Nat → Int → List Int → Int → Int → List (List Int) → List (List Int) → List Bool → Option (Bool)
  | 0, _, _, _, _, _, _, _ => none
  | k + 1, x5, x41, x42, x43, x133000, x133001, x133002 => if x43 < x42 then (if 0 ≤ x43 then (if x43 < (x41.length : Int) then (if x43 < x5 then (if x43 < (x133000.length : Int) then (if ((rd_L7 x133000 x43).length : Int) > (rd x41 x43) then (some false) else (if x43 ≥ x5 then (if 0 ≤ (wrap64 (x43 - x5)) then (if (wrap64 (x43 - x5)) < (x133001.length : Int) then (if ((rd_L7 x133001 (wrap64 (x43 - x5))).length : Int) > (rd x41 x43) then (some false) else (class_Has.l0 k x5 x41 x42 (wrap64 (x43 + 1)) x133000 x133001 x133002)) else (none)) else (none)) else (class_Has.l0 k x5 x41 x42 (wrap64 (x43 + 1)) x133000 x133001 x133002))) else (none)) else (if x43 ≥ x5 then (if 0 ≤ (wrap64 (x43 - x5)) then (if (wrap64 (x43 - x5)) < (x133001.length : Int) then (if ((rd_L7 x133001 (wrap64 (x43 - x5))).length : Int) > (rd x41 x43) then (some false) else (class_Has.l0 k x5 x41 x42 (wrap64 (x43 + 1)) x133000 x133001 x133002)) else (none)) else (none)) else (class_Has.l0 k x5 x41 x42 (wrap64 (x43 + 1)) x133000 x133001 x133002))) else (none)) else (none)) else (some true)
end
def class_Has.f (k : Nat) (l0_0 : List (S38)) (l0_1 : List Int) (a0_2 : Int) (a0_3 : Int) (a0_4 : Int) (l1_0 : List (List Int)) (l1_1 : List (List Int)) (l1_2 : List Bool) : Option (Bool) := (class_Files.f k l0_0 l0_1 a0_2 a0_3 a0_4).bind fun t133 => ((class_May.f l0_0 l0_1 a0_2 a0_3 a0_4).bind fun t136 => (if t136 = true then (if (l1_0.length : Int) = (t133.length : Int) then (if (l1_1.length : Int) = (l0_1.length : Int) then ((fails_May.f k l1_2 a0_2 a0_3).bind fun t137 => (class_Has.j0 k (t133.length : Int) (!t137) l0_0 l0_1 a0_2 a0_3 a0_4 l1_0 l1_1 l1_2)) else (class_Has.j0 k (t133.length : Int) true l0_0 l0_1 a0_2 a0_3 a0_4 l1_0 l1_1 l1_2)) else (class_Has.j0 k (t133.length : Int) true l0_0 l0_1 a0_2 a0_3 a0_4 l1_0 l1_1 l1_2)) else (class_Has.j0 k (t133.length : Int) true l0_0 l0_1 a0_2 a0_3 a0_4 l1_0 l1_1 l1_2)))
theorem class_Has.mono_l : ∀ k, (∀ y0 y1 y2 y3 y4 y5 y6 y7 y8 y9, LeO (class_Has.j0 k y0 y1 y2 y3 y4 y5 y6 y7 y8 y9) (class_Has.j0 (k + 1) y0 y1 y2 y3 y4 y5 y6 y7 y8 y9)) ∧ (∀ y0 y1 y2 y3 y4 y5 y6, LeO (class_Has.l0 k y0 y1 y2 y3 y4 y5 y6) (class_Has.l0 (k + 1) y0 y1 y2 y3 y4 y5 y6))
  | 0 => ⟨fun _ _ _ _ _ _ _ _ _ _ r h => by simp [class_Has.j0] at h, fun _ _ _ _ _ _ _ r h => by simp [class_Has.l0] at h⟩
  | k + 1 => by
    obtain ⟨ih0, ih1⟩ := class_Has.mono_l k
    refine ⟨?_, ?_⟩
    · intro y0 y1 y2 y3 y4 y5 y6 y7 y8 y9
      unfold class_Has.j0
      repeat' first
      | (with_reducible exact ih0 _ _ _ _ _ _ _ _ _ _)
      | (with_reducible exact ih1 _ _ _ _ _ _ _)
      | (with_reducible exact class_Caps.mono _ _ _ _ _ _)
      | (with_reducible exact class_Files.mono _ _ _ _ _ _)
      | (with_reducible exact fails_May.mono _ _ _ _)
      | (with_reducible exact LeO.refl _)
      | (with_reducible exact LeO.none _)
      | (with_reducible refine LeO.ite ?_ ?_)
      | (with_reducible refine LeO.bind ?_ (fun _ => ?_))
      | exact ih0 _ _ _ _ _ _ _ _ _ _
      | exact ih1 _ _ _ _ _ _ _
      | exact class_Caps.mono _ _ _ _ _ _
      | exact class_Files.mono _ _ _ _ _ _
      | exact fails_May.mono _ _ _ _
      | exact LeO.none _
      | refine LeO.ite ?_ ?_
      | refine LeO.bind ?_ (fun _ => ?_)
    · intro y0 y1 y2 y3 y4 y5 y6
      unfold class_Has.l0
      repeat' first
      | (with_reducible exact ih0 _ _ _ _ _ _ _ _ _ _)
      | (with_reducible exact ih1 _ _ _ _ _ _ _)
      | (with_reducible exact class_Caps.mono _ _ _ _ _ _)
      | (with_reducible exact class_Files.mono _ _ _ _ _ _)
      | (with_reducible exact fails_May.mono _ _ _ _)
      | (with_reducible exact LeO.refl _)
      | (with_reducible exact LeO.none _)
      | (with_reducible refine LeO.ite ?_ ?_)
      | (with_reducible refine LeO.bind ?_ (fun _ => ?_))
      | exact ih0 _ _ _ _ _ _ _ _ _ _
      | exact ih1 _ _ _ _ _ _ _
      | exact class_Caps.mono _ _ _ _ _ _
      | exact class_Files.mono _ _ _ _ _ _
      | exact fails_May.mono _ _ _ _
      | exact LeO.none _
      | refine LeO.ite ?_ ?_
      | refine LeO.bind ?_ (fun _ => ?_)
theorem class_Has.mono : ∀ a0 a1 a2 a3 a4 a5 a6 a7 k, LeO (class_Has.f k a0 a1 a2 a3 a4 a5 a6 a7) (class_Has.f (k + 1) a0 a1 a2 a3 a4 a5 a6 a7) := by
  intro a0 a1 a2 a3 a4 a5 a6 a7 k
  obtain ⟨ih0, ih1⟩ := class_Has.mono_l k
  unfold class_Has.f
  repeat' first
      | (with_reducible exact ih0 _ _ _ _ _ _ _ _ _ _)
      | (with_reducible exact ih1 _ _ _ _ _ _ _)
      | (with_reducible exact class_Caps.mono _ _ _ _ _ _)
      | (with_reducible exact class_Files.mono _ _ _ _ _ _)
      | (with_reducible exact fails_May.mono _ _ _ _)
      | (with_reducible exact LeO.refl _)
      | (with_reducible exact LeO.none _)
      | (with_reducible refine LeO.ite ?_ ?_)
      | (with_reducible refine LeO.bind ?_ (fun _ => ?_))
      | exact ih0 _ _ _ _ _ _ _ _ _ _
      | exact ih1 _ _ _ _ _ _ _
      | exact class_Caps.mono _ _ _ _ _ _
      | exact class_Files.mono _ _ _ _ _ _
      | exact fails_May.mono _ _ _ _
      | exact LeO.none _
      | refine LeO.ite ?_ ?_
      | refine LeO.bind ?_ (fun _ => ?_)
set_option maxHeartbeats 8000000 in
set_option maxRecDepth 100000 in
theorem class_Has.calls (k : Nat) (A0_0 : Option Addr) (c0_0 : Nat) (l0_0 : List (S38)) (A0_1 : Option Addr) (c0_1 : Nat) (l0_1 : List Int) (a0_2 : Int) (a0_3 : Int) (a0_4 : Int) (A1_0 : Option Addr) (c1_0 : Nat) (l1_0 : List (List Int)) (A1_1 : Option Addr) (c1_1 : Nat) (l1_1 : List (List Int)) (A1_2 : Option Addr) (c1_2 : Nat) (l1_2 : List Bool) (r : Bool) (w : World) (hr0_0 : Kd.C k38 w A0_0 l0_0.length l0_0) (hc0_0 : l0_0.length ≤ c0_0) (hr0_1 : Kd.C (Kd.int .i64) w A0_1 l0_1.length l0_1) (hc0_1 : l0_1.length ≤ c0_1) (hr1_0 : Kd.C (Kd.slice 5 (Kd.int .u8)) w A1_0 l1_0.length l1_0) (hc1_0 : l1_0.length ≤ c1_0) (hr1_1 : Kd.C (Kd.slice 5 (Kd.int .u8)) w A1_1 l1_1.length l1_1) (hc1_1 : l1_1.length ≤ c1_1) (hr1_2 : Kd.C Kd.bool w A1_2 l1_2.length l1_2) (hc1_2 : l1_2.length ≤ c1_2) (h : class_Has.f k l0_0 l0_1 a0_2 a0_3 a0_4 l1_0 l1_1 l1_2 = some r) :
    Calls Try.prog 19 #[.agg #[.slice A0_0 l0_0.length c0_0, .slice A0_1 l0_1.length c0_1, .int .i64 a0_2, .int .i64 a0_3, .int .i64 a0_4], .agg #[.slice A1_0 l1_0.length c1_0, .slice A1_1 l1_1.length c1_1, .slice A1_2 l1_2.length c1_2]] w fun e w' => e = .returned (.bool r) ∧ Below w.heap.size w w' := by
  have hu25 := Try.underlying25
  have hu31 := Try.underlying31
  have HR0_0 := Aside0.mk hr0_0
  have HC0_0 := Aside0.mk hc0_0
  clear hr0_0 hc0_0
  have HR0_1 := Aside0.mk hr0_1
  have HC0_1 := Aside0.mk hc0_1
  clear hr0_1 hc0_1
  have HR1_0 := Aside0.mk hr1_0
  have HC1_0 := Aside0.mk hc1_0
  clear hr1_0 hc1_0
  have HR1_1 := Aside0.mk hr1_1
  have HC1_1 := Aside0.mk hc1_1
  clear hr1_1 hc1_1
  have HR1_2 := Aside0.mk hr1_2
  have HC1_2 := Aside0.mk hc1_2
  clear hr1_2 hc1_2
  have HB := Aside0.mk (Below.refl w.heap.size w)
  have H : ((class_Files.f k l0_0 l0_1 a0_2 a0_3 a0_4).bind fun t133 => ((class_May.f l0_0 l0_1 a0_2 a0_3 a0_4).bind fun t136 => (if t136 = true then (if (l1_0.length : Int) = (t133.length : Int) then (if (l1_1.length : Int) = (l0_1.length : Int) then ((fails_May.f k l1_2 a0_2 a0_3).bind fun t137 => (class_Has.j0 k (t133.length : Int) (!t137) l0_0 l0_1 a0_2 a0_3 a0_4 l1_0 l1_1 l1_2)) else (class_Has.j0 k (t133.length : Int) true l0_0 l0_1 a0_2 a0_3 a0_4 l1_0 l1_1 l1_2)) else (class_Has.j0 k (t133.length : Int) true l0_0 l0_1 a0_2 a0_3 a0_4 l1_0 l1_1 l1_2)) else (class_Has.j0 k (t133.length : Int) true l0_0 l0_1 a0_2 a0_3 a0_4 l1_0 l1_1 l1_2)))) = some r := h
  clear h
  replace H := Option.bind_eq_some_iff.mp H
  obtain ⟨t133, A30, H⟩ := H
  replace H : ((class_May.f l0_0 l0_1 a0_2 a0_3 a0_4).bind fun t136 => (if t136 = true then (if (l1_0.length : Int) = (t133.length : Int) then (if (l1_1.length : Int) = (l0_1.length : Int) then ((fails_May.f k l1_2 a0_2 a0_3).bind fun t137 => (class_Has.j0 k (t133.length : Int) (!t137) l0_0 l0_1 a0_2 a0_3 a0_4 l1_0 l1_1 l1_2)) else (class_Has.j0 k (t133.length : Int) true l0_0 l0_1 a0_2 a0_3 a0_4 l1_0 l1_1 l1_2)) else (class_Has.j0 k (t133.length : Int) true l0_0 l0_1 a0_2 a0_3 a0_4 l1_0 l1_1 l1_2)) else (class_Has.j0 k (t133.length : Int) true l0_0 l0_1 a0_2 a0_3 a0_4 l1_0 l1_1 l1_2))) = some r := H
  have A3 := Aside0.mk A30
  clear A30
  have HC4 := Aside0.mk H
  clear H
  go_enter Try.func19, Try.ntmps19
  go_upto_region 2 with (first | ((with_reducible refine gate_dst (N := 2) rfl ?_); (try (refine gate_guard (by rfl) ?_; dsimp only)); refine box_event ?hg (N := 2) ?hd (cs := #[.slice A0_0 l0_0.length c0_0, .slice A0_1 l0_1.length c0_1, .int .i64 a0_2, .int .i64 a0_3, .int .i64 a0_4]) (t := 25) ?hr ?_; (case hd => rfl); (case hg => rfl); (case hr => first | (go_simp; done) | (go_simp; rfl)); intro gb131 hg w5 hbox hb; have n0_ := Aside0.mk (below_step (by repeat (first | (with_reducible first | exact HB.out | apply below_alloc | apply pw_below_drewN | apply below_drew1) | exact HB.out)) hb); have n1_ := Aside0.mk (hbox); have n2_ := Aside0.mk ((by rw [hg]; exact (below_size (by repeat (first | (with_reducible first | exact HB.out | apply below_alloc | apply pw_below_drewN | apply below_drew1) | exact HB.out))) : w.heap.size ≤ gb131)); have n3_ := Aside0.mk ((by rw [hg]; exact (below_size (by repeat (first | (with_reducible first | exact HB.out | apply below_alloc | apply pw_below_drewN | apply below_drew1) | exact HB.out))) : w.heap.size ≤ gb131)); clear HB; have HB := n0_; have BK131 := n1_; have GW131 := n2_; have GE131 := n3_; clear n0_ n1_ n2_ n3_; clear hb hbox hg) | ((with_reducible refine gate_dst (N := 3) rfl ?_); (try (refine gate_guard (by rfl) ?_; dsimp only)); refine box_event ?hg (N := 3) ?hd (cs := #[.slice A1_0 l1_0.length c1_0, .slice A1_1 l1_1.length c1_1, .slice A1_2 l1_2.length c1_2]) (t := 31) ?hr ?_; (case hd => rfl); (case hg => rfl); (case hr => first | (go_simp; done) | (go_simp; rfl)); intro gb132 hg w6 hbox hb; have n0_ := Aside0.mk (blk_below (g := gb131) (o := .cells #[.slice A0_0 l0_0.length c0_0, .slice A0_1 l0_1.length c0_1, .int .i64 a0_2, .int .i64 a0_3, .int .i64 a0_4] 25 (0, 0)) (by (with_reducible repeat (first | refine blk_drewN ?_ _ | refine blk_drew ?_ | refine blk_alloc ?_ _)); exact BK131.out) hb); have n1_ := Aside0.mk (below_step (by repeat (first | (with_reducible first | exact HB.out | apply below_alloc | apply pw_below_drewN | apply below_drew1 | refine below_set ?_ GE131.out) | exact HB.out)) hb); have n2_ := Aside0.mk (hbox); have n3_ := Aside0.mk ((by rw [hg]; exact (below_size (by repeat (first | (with_reducible first | exact HB.out | apply below_alloc | apply pw_below_drewN | apply below_drew1 | refine below_set ?_ GE131.out) | exact HB.out))) : w.heap.size ≤ gb132)); have n4_ := Aside0.mk ((by rw [hg]; exact (below_size (by repeat (first | (with_reducible first | exact HB.out | apply below_alloc | apply pw_below_drewN | apply below_drew1 | refine below_set ?_ GE131.out) | exact HB.out))) : w.heap.size ≤ gb132)); have n5_ := Aside0.mk ((by rw [hg]; exact Nat.ne_of_lt (blk_lt (g := gb131) (o := .cells #[.slice A0_0 l0_0.length c0_0, .slice A0_1 l0_1.length c0_1, .int .i64 a0_2, .int .i64 a0_3, .int .i64 a0_4] 25 (0, 0)) (by (with_reducible repeat (first | refine blk_drewN ?_ _ | refine blk_drew ?_ | refine blk_alloc ?_ _)); exact BK131.out)) : gb131 ≠ gb132)); have n6_ := Aside0.mk ((by rw [hg]; exact Nat.ne_of_gt (blk_lt (g := gb131) (o := .cells #[.slice A0_0 l0_0.length c0_0, .slice A0_1 l0_1.length c0_1, .int .i64 a0_2, .int .i64 a0_3, .int .i64 a0_4] 25 (0, 0)) (by (with_reducible repeat (first | refine blk_drewN ?_ _ | refine blk_drew ?_ | refine blk_alloc ?_ _)); exact BK131.out)) : gb132 ≠ gb131)); clear BK131; clear HB; have BK131 := n0_; have HB := n1_; have BK132 := n2_; have GW132 := n3_; have GE132 := n4_; have NB131_132 := n5_; have NB132_131 := n6_; clear n0_ n1_ n2_ n3_ n4_ n5_ n6_; clear hb hbox hg; have hnb7 := NB131_132.out; have hnc7 := NB132_131.out; have hcz8_0 : w6.cell? ⟨gb131, 0, none⟩ = some (.slice A0_0 l0_0.length c0_0) := (blk_cell BK131.out 0).trans rfl; have hcz8_1 : w6.cell? ⟨gb131, 1, none⟩ = some (.slice A0_1 l0_1.length c0_1) := (blk_cell BK131.out 1).trans rfl; have hcz8_2 : w6.cell? ⟨gb131, 2, none⟩ = some (.int .i64 a0_2) := (blk_cell BK131.out 2).trans rfl; have hcz8_3 : w6.cell? ⟨gb131, 3, none⟩ = some (.int .i64 a0_3) := (blk_cell BK131.out 3).trans rfl; have hcz8_4 : w6.cell? ⟨gb131, 4, none⟩ = some (.int .i64 a0_4) := (blk_cell BK131.out 4).trans rfl; have hfz8_0 := blk_frozen BK131.out 0; have hfz8_1 := blk_frozen BK131.out 1; have hfz8_2 := blk_frozen BK131.out 2; have hfz8_3 := blk_frozen BK131.out 3; have hfz8_4 := blk_frozen BK131.out 4) | ((with_reducible refine gate_callee (f := 18) rfl ?_); refine goesL_ (some 9) rfl rfl Try.func18 (by kernel_rfl) rfl #[.agg #[.slice A0_0 l0_0.length c0_0, .slice A0_1 l0_1.length c0_1, .int .i64 a0_2, .int .i64 a0_3, .int .i64 a0_4]] rfl (by (try simp only [List.map_toArray, List.map_cons, List.map_nil]); first | done | rfl | (simp only [List.length_drop, List.length_take]; rfl)) ?_; (with_reducible refine (class_Files.calls k _ _ l0_0 _ _ l0_1 a0_2 a0_3 a0_4 t133 _ ?side1 ?side2 ?side3 ?side4 A3.out).mono ?_); (case side1 => repeat (first | exact (Kd.C_below HR0_0.out HB.out) | (with_reducible refine Kd.C_alloc ?_ _) | (with_reducible refine Kd.C_drewN ?_ _) | (with_reducible refine Kd.C_drew ?_))); (case side2 => exact HC0_0.out); (case side3 => repeat (first | exact (Kd.C_below HR0_1.out HB.out) | (with_reducible refine Kd.C_alloc ?_ _) | (with_reducible refine Kd.C_drewN ?_ _) | (with_reducible refine Kd.C_drew ?_))); (case side4 => exact HC0_1.out); rintro e w9 ⟨v134, rfl, ho0, hb⟩; refine ⟨_, rfl, ?_⟩; have n0_ := Aside0.mk (Kd.R_lower ho0 (below_size (by repeat (first | (with_reducible first | exact HB.out | apply below_alloc | apply pw_below_drewN | apply below_drew1 | refine below_set ?_ GE131.out | refine below_set ?_ GE132.out) | exact HB.out)))); have n1_ := Aside0.mk (blk_below (g := gb131) (o := .cells #[.slice A0_0 l0_0.length c0_0, .slice A0_1 l0_1.length c0_1, .int .i64 a0_2, .int .i64 a0_3, .int .i64 a0_4] 25 (0, 0)) (by (with_reducible repeat (first | refine blk_drewN ?_ _ | refine blk_drew ?_ | refine blk_alloc ?_ _)); exact BK131.out) hb); have n2_ := Aside0.mk (blk_below (g := gb132) (o := .cells #[.slice A1_0 l1_0.length c1_0, .slice A1_1 l1_1.length c1_1, .slice A1_2 l1_2.length c1_2] 31 (0, 0)) (by (with_reducible repeat (first | refine blk_drewN ?_ _ | refine blk_drew ?_ | refine blk_alloc ?_ _)); exact BK132.out) hb); have n3_ := Aside0.mk (below_step (by repeat (first | (with_reducible first | exact HB.out | apply below_alloc | apply pw_below_drewN | apply below_drew1 | refine below_set ?_ GE131.out | refine below_set ?_ GE132.out) | exact HB.out)) hb); clear BK131; clear BK132; clear HB; have HO135 := n0_; have BK131 := n1_; have BK132 := n2_; have HB := n3_; clear n0_ n1_ n2_ n3_; (try clear hb); (try clear hb2); (try clear hk); (try clear hi); (try clear ho0); obtain ⟨Ao10, co10, eo10⟩ := Kd.R_slice HO135.out; subst eo10))
  (try simp only [Act.put, List.setIfInBounds_toArray, List.set_cons_zero, List.set_cons_succ])
  go_cut [39] (fun v39 wc => ∃ (kq : Nat) (x39_3 : Bool), v39 = .bool x39_3 ∧ Aside0 (class_Has.j0 kq (t133.length : Int) x39_3 l0_0 l0_1 a0_2 a0_3 a0_4 l1_0 l1_1 l1_2 = some r) ∧ Aside0 (kq ≤ k) ∧ Aside0 (wc.heap[gb131]? = some (.cells #[(.slice A0_0 l0_0.length c0_0), (.slice A0_1 l0_1.length c0_1), .int .i64 a0_2, .int .i64 a0_3, .int .i64 a0_4] 25 (0, 0))) ∧ Aside0 (wc.heap[gb132]? = some (.cells #[(.slice A1_0 l1_0.length c1_0), (.slice A1_1 l1_1.length c1_1), (.slice A1_2 l1_2.length c1_2)] 31 (0, 0))) ∧ Aside0 (Below w.heap.size w wc))
  case first =>
    have H := HC4.out
    clear HC4
    replace H := Option.bind_eq_some_iff.mp H
    obtain ⟨t136, A110, H⟩ := H
    replace H : (if t136 = true then (if (l1_0.length : Int) = (t133.length : Int) then (if (l1_1.length : Int) = (l0_1.length : Int) then ((fails_May.f k l1_2 a0_2 a0_3).bind fun t137 => (class_Has.j0 k (t133.length : Int) (!t137) l0_0 l0_1 a0_2 a0_3 a0_4 l1_0 l1_1 l1_2)) else (class_Has.j0 k (t133.length : Int) true l0_0 l0_1 a0_2 a0_3 a0_4 l1_0 l1_1 l1_2)) else (class_Has.j0 k (t133.length : Int) true l0_0 l0_1 a0_2 a0_3 a0_4 l1_0 l1_1 l1_2)) else (class_Has.j0 k (t133.length : Int) true l0_0 l0_1 a0_2 a0_3 a0_4 l1_0 l1_1 l1_2)) = some r := H
    have A11 := Aside0.mk A110
    clear A110
    by_cases c12 : t136 = true
    · subst c12
      have H1 : (if (l1_0.length : Int) = (t133.length : Int) then (if (l1_1.length : Int) = (l0_1.length : Int) then ((fails_May.f k l1_2 a0_2 a0_3).bind fun t137 => (class_Has.j0 k (t133.length : Int) (!t137) l0_0 l0_1 a0_2 a0_3 a0_4 l1_0 l1_1 l1_2)) else (class_Has.j0 k (t133.length : Int) true l0_0 l0_1 a0_2 a0_3 a0_4 l1_0 l1_1 l1_2)) else (class_Has.j0 k (t133.length : Int) true l0_0 l0_1 a0_2 a0_3 a0_4 l1_0 l1_1 l1_2)) = some r := by rw [if_pos rfl] at H; exact H
      clear H
      have H := H1
      clear H1
      by_cases c13 : (l1_0.length : Int) = (t133.length : Int)
      · rw [if_pos c13] at H
        have c13b0 : ((l1_0.length : Int) == (t133.length : Int)) = true := beq_iff_eq.mpr c13
        have c13b1 : ((l1_0.length : Int) != (t133.length : Int)) = false := bne_eq_false_iff_eq.mpr c13
        have c13b2 : (l1_0.length == t133.length) = true := by first | simpa using c13 | (simp at c13 ⊢; omega)
        clear c13
        (first | rw [c13b0] | (simp only [i64_w, i32_w]; rw [c13b0]) | (rw [c13b2]; (try simp only [Bool.not_true, Bool.not_false])) | skip)
        by_cases c14 : (l1_1.length : Int) = (l0_1.length : Int)
        · rw [if_pos c14] at H
          have c14b0 : ((l1_1.length : Int) == (l0_1.length : Int)) = true := beq_iff_eq.mpr c14
          have c14b1 : ((l1_1.length : Int) != (l0_1.length : Int)) = false := bne_eq_false_iff_eq.mpr c14
          have c14b2 : (l1_1.length == l0_1.length) = true := by first | simpa using c14 | (simp at c14 ⊢; omega)
          clear c14
          replace H := Option.bind_eq_some_iff.mp H
          obtain ⟨t137, A150, H⟩ := H
          replace H : (class_Has.j0 k (t133.length : Int) (!t137) l0_0 l0_1 a0_2 a0_3 a0_4 l1_0 l1_1 l1_2) = some r := H
          have A15 := Aside0.mk A150
          clear A150
          have H' := Aside0.mk H
          clear H
          have hnb16 := NB131_132.out
          have hnc16 := NB132_131.out
          have hcz17_0 : w9.cell? ⟨gb131, 0, none⟩ = some (.slice A0_0 l0_0.length c0_0) := (blk_cell BK131.out 0).trans rfl
          have hcz17_1 : w9.cell? ⟨gb131, 1, none⟩ = some (.slice A0_1 l0_1.length c0_1) := (blk_cell BK131.out 1).trans rfl
          have hcz17_2 : w9.cell? ⟨gb131, 2, none⟩ = some (.int .i64 a0_2) := (blk_cell BK131.out 2).trans rfl
          have hcz17_3 : w9.cell? ⟨gb131, 3, none⟩ = some (.int .i64 a0_3) := (blk_cell BK131.out 3).trans rfl
          have hcz17_4 : w9.cell? ⟨gb131, 4, none⟩ = some (.int .i64 a0_4) := (blk_cell BK131.out 4).trans rfl
          have hfz17_0 := blk_frozen BK131.out 0
          have hfz17_1 := blk_frozen BK131.out 1
          have hfz17_2 := blk_frozen BK131.out 2
          have hfz17_3 := blk_frozen BK131.out 3
          have hfz17_4 := blk_frozen BK131.out 4
          go_wp2_with (first | ((with_reducible refine gate_callee (f := 13) rfl ?_); refine goesL_ (some 12) rfl rfl Try.func13 (by kernel_rfl) rfl #[.agg #[.slice A0_0 l0_0.length c0_0, .slice A0_1 l0_1.length c0_1, .int .i64 a0_2, .int .i64 a0_3, .int .i64 a0_4]] rfl (by (try simp only [List.map_toArray, List.map_cons, List.map_nil]); first | done | rfl | (simp only [List.length_drop, List.length_take]; rfl)) ?_; (with_reducible refine (class_May.calls _ _ l0_0 _ _ l0_1 a0_2 a0_3 a0_4 true _ ?side1 ?side2 ?side3 ?side4 A11.out).mono ?_); (case side1 => repeat (first | exact (Kd.C_below HR0_0.out HB.out) | (with_reducible refine Kd.C_alloc ?_ _) | (with_reducible refine Kd.C_drewN ?_ _) | (with_reducible refine Kd.C_drew ?_))); (case side2 => exact HC0_0.out); (case side3 => repeat (first | exact (Kd.C_below HR0_1.out HB.out) | (with_reducible refine Kd.C_alloc ?_ _) | (with_reducible refine Kd.C_drewN ?_ _) | (with_reducible refine Kd.C_drew ?_))); (case side4 => exact HC0_1.out); rintro e w18 ⟨rfl, hb⟩; refine ⟨_, rfl, ?_⟩; have n0_ := Aside0.mk (Kd.R_below (by (with_reducible repeat (first | apply Kd.R_alloc | apply Kd.R_drewN | apply Kd.R_drew)); exact HO135.out) hb); have n1_ := Aside0.mk (blk_below (g := gb131) (o := .cells #[.slice A0_0 l0_0.length c0_0, .slice A0_1 l0_1.length c0_1, .int .i64 a0_2, .int .i64 a0_3, .int .i64 a0_4] 25 (0, 0)) (by (with_reducible repeat (first | refine blk_drewN ?_ _ | refine blk_drew ?_ | refine blk_alloc ?_ _)); exact BK131.out) hb); have n2_ := Aside0.mk (blk_below (g := gb132) (o := .cells #[.slice A1_0 l1_0.length c1_0, .slice A1_1 l1_1.length c1_1, .slice A1_2 l1_2.length c1_2] 31 (0, 0)) (by (with_reducible repeat (first | refine blk_drewN ?_ _ | refine blk_drew ?_ | refine blk_alloc ?_ _)); exact BK132.out) hb); have n3_ := Aside0.mk (below_step (by repeat (first | (with_reducible first | exact HB.out | apply below_alloc | apply pw_below_drewN | apply below_drew1 | refine below_set ?_ GE131.out | refine below_set ?_ GE132.out) | exact HB.out)) hb); clear HO135; clear BK131; clear BK132; clear HB; have HO135 := n0_; have BK131 := n1_; have BK132 := n2_; have HB := n3_; clear n0_ n1_ n2_ n3_; (try clear hb); (try clear hb2); (try clear hk); (try clear hi); have hcz19_0 : w18.cell? ⟨gb132, 0, none⟩ = some (.slice A1_0 l1_0.length c1_0) := (blk_cell BK132.out 0).trans rfl; have hcz19_1 : w18.cell? ⟨gb132, 1, none⟩ = some (.slice A1_1 l1_1.length c1_1) := (blk_cell BK132.out 1).trans rfl; have hcz19_2 : w18.cell? ⟨gb132, 2, none⟩ = some (.slice A1_2 l1_2.length c1_2) := (blk_cell BK132.out 2).trans rfl; have hfz19_0 := blk_frozen BK132.out 0; have hfz19_1 := blk_frozen BK132.out 1; have hfz19_2 := blk_frozen BK132.out 2; have hcz20_0 : w18.cell? ⟨gb131, 0, none⟩ = some (.slice A0_0 l0_0.length c0_0) := (blk_cell BK131.out 0).trans rfl; have hcz20_1 : w18.cell? ⟨gb131, 1, none⟩ = some (.slice A0_1 l0_1.length c0_1) := (blk_cell BK131.out 1).trans rfl; have hcz20_2 : w18.cell? ⟨gb131, 2, none⟩ = some (.int .i64 a0_2) := (blk_cell BK131.out 2).trans rfl; have hcz20_3 : w18.cell? ⟨gb131, 3, none⟩ = some (.int .i64 a0_3) := (blk_cell BK131.out 3).trans rfl; have hcz20_4 : w18.cell? ⟨gb131, 4, none⟩ = some (.int .i64 a0_4) := (blk_cell BK131.out 4).trans rfl; have hfz20_0 := blk_frozen BK131.out 0; have hfz20_1 := blk_frozen BK131.out 1; have hfz20_2 := blk_frozen BK131.out 2; have hfz20_3 := blk_frozen BK131.out 3; have hfz20_4 := blk_frozen BK131.out 4) | (go_at_call 36; (with_reducible refine (fails_May.calls k _ _ l1_2 a0_2 a0_3 t137 _ ?side1 ?side2 A15.out).mono ?_); (case side1 => repeat (first | exact (Kd.C_below HR1_2.out HB.out) | (with_reducible refine Kd.C_alloc ?_ _) | (with_reducible refine Kd.C_drewN ?_ _) | (with_reducible refine Kd.C_drew ?_))); (case side2 => exact HC1_2.out); rintro e w' ⟨rfl, ⟨nd, rfl⟩⟩))
          go_meet
          case rel => exact ⟨_, (!t137), (by first | rfl | (simp; done) | (simp [*]; done)), H', ⟨by first | omega | exact Nat.le_refl _⟩, ⟨by (with_reducible repeat (first | refine blk_drewN ?_ _ | refine blk_drew ?_ | refine blk_alloc ?_ _)); exact BK131.out⟩, ⟨by (with_reducible repeat (first | refine blk_drewN ?_ _ | refine blk_drew ?_ | refine blk_alloc ?_ _)); exact BK132.out⟩, ⟨by repeat (first | (with_reducible first | exact HB.out | apply below_alloc | apply pw_below_drewN | apply below_drew1 | refine below_set ?_ GE131.out | refine below_set ?_ GE132.out) | exact HB.out)⟩⟩
        · rw [if_neg c14] at H
          have c14b0 : ((l1_1.length : Int) == (l0_1.length : Int)) = false := beq_eq_false_iff_ne.mpr c14
          have c14b1 : ((l1_1.length : Int) != (l0_1.length : Int)) = true := bne_iff_ne.mpr c14
          have c14b2 : (l1_1.length == l0_1.length) = false := by first | simpa using c14 | (simp at c14 ⊢; omega)
          have H' := Aside0.mk H
          clear H
          have hnb21 := NB131_132.out
          have hnc21 := NB132_131.out
          have hcz22_0 : w9.cell? ⟨gb131, 0, none⟩ = some (.slice A0_0 l0_0.length c0_0) := (blk_cell BK131.out 0).trans rfl
          have hcz22_1 : w9.cell? ⟨gb131, 1, none⟩ = some (.slice A0_1 l0_1.length c0_1) := (blk_cell BK131.out 1).trans rfl
          have hcz22_2 : w9.cell? ⟨gb131, 2, none⟩ = some (.int .i64 a0_2) := (blk_cell BK131.out 2).trans rfl
          have hcz22_3 : w9.cell? ⟨gb131, 3, none⟩ = some (.int .i64 a0_3) := (blk_cell BK131.out 3).trans rfl
          have hcz22_4 : w9.cell? ⟨gb131, 4, none⟩ = some (.int .i64 a0_4) := (blk_cell BK131.out 4).trans rfl
          have hfz22_0 := blk_frozen BK131.out 0
          have hfz22_1 := blk_frozen BK131.out 1
          have hfz22_2 := blk_frozen BK131.out 2
          have hfz22_3 := blk_frozen BK131.out 3
          have hfz22_4 := blk_frozen BK131.out 4
          go_wp2_with (first | ((with_reducible refine gate_callee (f := 13) rfl ?_); refine goesL_ (some 12) rfl rfl Try.func13 (by kernel_rfl) rfl #[.agg #[.slice A0_0 l0_0.length c0_0, .slice A0_1 l0_1.length c0_1, .int .i64 a0_2, .int .i64 a0_3, .int .i64 a0_4]] rfl (by (try simp only [List.map_toArray, List.map_cons, List.map_nil]); first | done | rfl | (simp only [List.length_drop, List.length_take]; rfl)) ?_; (with_reducible refine (class_May.calls _ _ l0_0 _ _ l0_1 a0_2 a0_3 a0_4 true _ ?side1 ?side2 ?side3 ?side4 A11.out).mono ?_); (case side1 => repeat (first | exact (Kd.C_below HR0_0.out HB.out) | (with_reducible refine Kd.C_alloc ?_ _) | (with_reducible refine Kd.C_drewN ?_ _) | (with_reducible refine Kd.C_drew ?_))); (case side2 => exact HC0_0.out); (case side3 => repeat (first | exact (Kd.C_below HR0_1.out HB.out) | (with_reducible refine Kd.C_alloc ?_ _) | (with_reducible refine Kd.C_drewN ?_ _) | (with_reducible refine Kd.C_drew ?_))); (case side4 => exact HC0_1.out); rintro e w23 ⟨rfl, hb⟩; refine ⟨_, rfl, ?_⟩; have n0_ := Aside0.mk (Kd.R_below (by (with_reducible repeat (first | apply Kd.R_alloc | apply Kd.R_drewN | apply Kd.R_drew)); exact HO135.out) hb); have n1_ := Aside0.mk (blk_below (g := gb131) (o := .cells #[.slice A0_0 l0_0.length c0_0, .slice A0_1 l0_1.length c0_1, .int .i64 a0_2, .int .i64 a0_3, .int .i64 a0_4] 25 (0, 0)) (by (with_reducible repeat (first | refine blk_drewN ?_ _ | refine blk_drew ?_ | refine blk_alloc ?_ _)); exact BK131.out) hb); have n2_ := Aside0.mk (blk_below (g := gb132) (o := .cells #[.slice A1_0 l1_0.length c1_0, .slice A1_1 l1_1.length c1_1, .slice A1_2 l1_2.length c1_2] 31 (0, 0)) (by (with_reducible repeat (first | refine blk_drewN ?_ _ | refine blk_drew ?_ | refine blk_alloc ?_ _)); exact BK132.out) hb); have n3_ := Aside0.mk (below_step (by repeat (first | (with_reducible first | exact HB.out | apply below_alloc | apply pw_below_drewN | apply below_drew1 | refine below_set ?_ GE131.out | refine below_set ?_ GE132.out) | exact HB.out)) hb); clear HO135; clear BK131; clear BK132; clear HB; have HO135 := n0_; have BK131 := n1_; have BK132 := n2_; have HB := n3_; clear n0_ n1_ n2_ n3_; (try clear hb); (try clear hb2); (try clear hk); (try clear hi); have hcz24_0 : w23.cell? ⟨gb132, 0, none⟩ = some (.slice A1_0 l1_0.length c1_0) := (blk_cell BK132.out 0).trans rfl; have hcz24_1 : w23.cell? ⟨gb132, 1, none⟩ = some (.slice A1_1 l1_1.length c1_1) := (blk_cell BK132.out 1).trans rfl; have hcz24_2 : w23.cell? ⟨gb132, 2, none⟩ = some (.slice A1_2 l1_2.length c1_2) := (blk_cell BK132.out 2).trans rfl; have hfz24_0 := blk_frozen BK132.out 0; have hfz24_1 := blk_frozen BK132.out 1; have hfz24_2 := blk_frozen BK132.out 2; have hcz25_0 : w23.cell? ⟨gb131, 0, none⟩ = some (.slice A0_0 l0_0.length c0_0) := (blk_cell BK131.out 0).trans rfl; have hcz25_1 : w23.cell? ⟨gb131, 1, none⟩ = some (.slice A0_1 l0_1.length c0_1) := (blk_cell BK131.out 1).trans rfl; have hcz25_2 : w23.cell? ⟨gb131, 2, none⟩ = some (.int .i64 a0_2) := (blk_cell BK131.out 2).trans rfl; have hcz25_3 : w23.cell? ⟨gb131, 3, none⟩ = some (.int .i64 a0_3) := (blk_cell BK131.out 3).trans rfl; have hcz25_4 : w23.cell? ⟨gb131, 4, none⟩ = some (.int .i64 a0_4) := (blk_cell BK131.out 4).trans rfl; have hfz25_0 := blk_frozen BK131.out 0; have hfz25_1 := blk_frozen BK131.out 1; have hfz25_2 := blk_frozen BK131.out 2; have hfz25_3 := blk_frozen BK131.out 3; have hfz25_4 := blk_frozen BK131.out 4))
          go_meet
          case rel => exact ⟨_, (true), (by first | rfl | (simp; done) | (simp [*]; done)), H', ⟨by first | omega | exact Nat.le_refl _⟩, ⟨by (with_reducible repeat (first | refine blk_drewN ?_ _ | refine blk_drew ?_ | refine blk_alloc ?_ _)); exact BK131.out⟩, ⟨by (with_reducible repeat (first | refine blk_drewN ?_ _ | refine blk_drew ?_ | refine blk_alloc ?_ _)); exact BK132.out⟩, ⟨by repeat (first | (with_reducible first | exact HB.out | apply below_alloc | apply pw_below_drewN | apply below_drew1 | refine below_set ?_ GE131.out | refine below_set ?_ GE132.out) | exact HB.out)⟩⟩
      · rw [if_neg c13] at H
        have c13b0 : ((l1_0.length : Int) == (t133.length : Int)) = false := beq_eq_false_iff_ne.mpr c13
        have c13b1 : ((l1_0.length : Int) != (t133.length : Int)) = true := bne_iff_ne.mpr c13
        have c13b2 : (l1_0.length == t133.length) = false := by first | simpa using c13 | (simp at c13 ⊢; omega)
        (first | rw [c13b0] | (simp only [i64_w, i32_w]; rw [c13b0]) | (rw [c13b2]; (try simp only [Bool.not_true, Bool.not_false])) | skip)
        have H' := Aside0.mk H
        clear H
        have hnb26 := NB131_132.out
        have hnc26 := NB132_131.out
        have hcz27_0 : w9.cell? ⟨gb131, 0, none⟩ = some (.slice A0_0 l0_0.length c0_0) := (blk_cell BK131.out 0).trans rfl
        have hcz27_1 : w9.cell? ⟨gb131, 1, none⟩ = some (.slice A0_1 l0_1.length c0_1) := (blk_cell BK131.out 1).trans rfl
        have hcz27_2 : w9.cell? ⟨gb131, 2, none⟩ = some (.int .i64 a0_2) := (blk_cell BK131.out 2).trans rfl
        have hcz27_3 : w9.cell? ⟨gb131, 3, none⟩ = some (.int .i64 a0_3) := (blk_cell BK131.out 3).trans rfl
        have hcz27_4 : w9.cell? ⟨gb131, 4, none⟩ = some (.int .i64 a0_4) := (blk_cell BK131.out 4).trans rfl
        have hfz27_0 := blk_frozen BK131.out 0
        have hfz27_1 := blk_frozen BK131.out 1
        have hfz27_2 := blk_frozen BK131.out 2
        have hfz27_3 := blk_frozen BK131.out 3
        have hfz27_4 := blk_frozen BK131.out 4
        go_wp2_with (first | ((with_reducible refine gate_callee (f := 13) rfl ?_); refine goesL_ (some 12) rfl rfl Try.func13 (by kernel_rfl) rfl #[.agg #[.slice A0_0 l0_0.length c0_0, .slice A0_1 l0_1.length c0_1, .int .i64 a0_2, .int .i64 a0_3, .int .i64 a0_4]] rfl (by (try simp only [List.map_toArray, List.map_cons, List.map_nil]); first | done | rfl | (simp only [List.length_drop, List.length_take]; rfl)) ?_; (with_reducible refine (class_May.calls _ _ l0_0 _ _ l0_1 a0_2 a0_3 a0_4 true _ ?side1 ?side2 ?side3 ?side4 A11.out).mono ?_); (case side1 => repeat (first | exact (Kd.C_below HR0_0.out HB.out) | (with_reducible refine Kd.C_alloc ?_ _) | (with_reducible refine Kd.C_drewN ?_ _) | (with_reducible refine Kd.C_drew ?_))); (case side2 => exact HC0_0.out); (case side3 => repeat (first | exact (Kd.C_below HR0_1.out HB.out) | (with_reducible refine Kd.C_alloc ?_ _) | (with_reducible refine Kd.C_drewN ?_ _) | (with_reducible refine Kd.C_drew ?_))); (case side4 => exact HC0_1.out); rintro e w28 ⟨rfl, hb⟩; refine ⟨_, rfl, ?_⟩; have n0_ := Aside0.mk (Kd.R_below (by (with_reducible repeat (first | apply Kd.R_alloc | apply Kd.R_drewN | apply Kd.R_drew)); exact HO135.out) hb); have n1_ := Aside0.mk (blk_below (g := gb131) (o := .cells #[.slice A0_0 l0_0.length c0_0, .slice A0_1 l0_1.length c0_1, .int .i64 a0_2, .int .i64 a0_3, .int .i64 a0_4] 25 (0, 0)) (by (with_reducible repeat (first | refine blk_drewN ?_ _ | refine blk_drew ?_ | refine blk_alloc ?_ _)); exact BK131.out) hb); have n2_ := Aside0.mk (blk_below (g := gb132) (o := .cells #[.slice A1_0 l1_0.length c1_0, .slice A1_1 l1_1.length c1_1, .slice A1_2 l1_2.length c1_2] 31 (0, 0)) (by (with_reducible repeat (first | refine blk_drewN ?_ _ | refine blk_drew ?_ | refine blk_alloc ?_ _)); exact BK132.out) hb); have n3_ := Aside0.mk (below_step (by repeat (first | (with_reducible first | exact HB.out | apply below_alloc | apply pw_below_drewN | apply below_drew1 | refine below_set ?_ GE131.out | refine below_set ?_ GE132.out) | exact HB.out)) hb); clear HO135; clear BK131; clear BK132; clear HB; have HO135 := n0_; have BK131 := n1_; have BK132 := n2_; have HB := n3_; clear n0_ n1_ n2_ n3_; (try clear hb); (try clear hb2); (try clear hk); (try clear hi); have hcz29_0 : w28.cell? ⟨gb132, 0, none⟩ = some (.slice A1_0 l1_0.length c1_0) := (blk_cell BK132.out 0).trans rfl; have hcz29_1 : w28.cell? ⟨gb132, 1, none⟩ = some (.slice A1_1 l1_1.length c1_1) := (blk_cell BK132.out 1).trans rfl; have hcz29_2 : w28.cell? ⟨gb132, 2, none⟩ = some (.slice A1_2 l1_2.length c1_2) := (blk_cell BK132.out 2).trans rfl; have hfz29_0 := blk_frozen BK132.out 0; have hfz29_1 := blk_frozen BK132.out 1; have hfz29_2 := blk_frozen BK132.out 2))
        go_meet
        case rel => exact ⟨_, (true), (by first | rfl | (simp; done) | (simp [*]; done)), H', ⟨by first | omega | exact Nat.le_refl _⟩, ⟨by (with_reducible repeat (first | refine blk_drewN ?_ _ | refine blk_drew ?_ | refine blk_alloc ?_ _)); exact BK131.out⟩, ⟨by (with_reducible repeat (first | refine blk_drewN ?_ _ | refine blk_drew ?_ | refine blk_alloc ?_ _)); exact BK132.out⟩, ⟨by repeat (first | (with_reducible first | exact HB.out | apply below_alloc | apply pw_below_drewN | apply below_drew1 | refine below_set ?_ GE131.out | refine below_set ?_ GE132.out) | exact HB.out)⟩⟩
    · replace c12 := Bool.eq_false_iff.mpr c12
      subst c12
      have H1 : (class_Has.j0 k (t133.length : Int) true l0_0 l0_1 a0_2 a0_3 a0_4 l1_0 l1_1 l1_2) = some r := by rw [if_neg (show ¬ (false = true) by decide)] at H; exact H
      clear H
      have H := H1
      clear H1
      have H' := Aside0.mk H
      clear H
      have hnb30 := NB131_132.out
      have hnc30 := NB132_131.out
      have hcz31_0 : w9.cell? ⟨gb131, 0, none⟩ = some (.slice A0_0 l0_0.length c0_0) := (blk_cell BK131.out 0).trans rfl
      have hcz31_1 : w9.cell? ⟨gb131, 1, none⟩ = some (.slice A0_1 l0_1.length c0_1) := (blk_cell BK131.out 1).trans rfl
      have hcz31_2 : w9.cell? ⟨gb131, 2, none⟩ = some (.int .i64 a0_2) := (blk_cell BK131.out 2).trans rfl
      have hcz31_3 : w9.cell? ⟨gb131, 3, none⟩ = some (.int .i64 a0_3) := (blk_cell BK131.out 3).trans rfl
      have hcz31_4 : w9.cell? ⟨gb131, 4, none⟩ = some (.int .i64 a0_4) := (blk_cell BK131.out 4).trans rfl
      have hfz31_0 := blk_frozen BK131.out 0
      have hfz31_1 := blk_frozen BK131.out 1
      have hfz31_2 := blk_frozen BK131.out 2
      have hfz31_3 := blk_frozen BK131.out 3
      have hfz31_4 := blk_frozen BK131.out 4
      go_wp2_with (first | ((with_reducible refine gate_callee (f := 13) rfl ?_); refine goesL_ (some 12) rfl rfl Try.func13 (by kernel_rfl) rfl #[.agg #[.slice A0_0 l0_0.length c0_0, .slice A0_1 l0_1.length c0_1, .int .i64 a0_2, .int .i64 a0_3, .int .i64 a0_4]] rfl (by (try simp only [List.map_toArray, List.map_cons, List.map_nil]); first | done | rfl | (simp only [List.length_drop, List.length_take]; rfl)) ?_; (with_reducible refine (class_May.calls _ _ l0_0 _ _ l0_1 a0_2 a0_3 a0_4 false _ ?side1 ?side2 ?side3 ?side4 A11.out).mono ?_); (case side1 => repeat (first | exact (Kd.C_below HR0_0.out HB.out) | (with_reducible refine Kd.C_alloc ?_ _) | (with_reducible refine Kd.C_drewN ?_ _) | (with_reducible refine Kd.C_drew ?_))); (case side2 => exact HC0_0.out); (case side3 => repeat (first | exact (Kd.C_below HR0_1.out HB.out) | (with_reducible refine Kd.C_alloc ?_ _) | (with_reducible refine Kd.C_drewN ?_ _) | (with_reducible refine Kd.C_drew ?_))); (case side4 => exact HC0_1.out); rintro e w32 ⟨rfl, hb⟩; refine ⟨_, rfl, ?_⟩; have n0_ := Aside0.mk (Kd.R_below (by (with_reducible repeat (first | apply Kd.R_alloc | apply Kd.R_drewN | apply Kd.R_drew)); exact HO135.out) hb); have n1_ := Aside0.mk (blk_below (g := gb131) (o := .cells #[.slice A0_0 l0_0.length c0_0, .slice A0_1 l0_1.length c0_1, .int .i64 a0_2, .int .i64 a0_3, .int .i64 a0_4] 25 (0, 0)) (by (with_reducible repeat (first | refine blk_drewN ?_ _ | refine blk_drew ?_ | refine blk_alloc ?_ _)); exact BK131.out) hb); have n2_ := Aside0.mk (blk_below (g := gb132) (o := .cells #[.slice A1_0 l1_0.length c1_0, .slice A1_1 l1_1.length c1_1, .slice A1_2 l1_2.length c1_2] 31 (0, 0)) (by (with_reducible repeat (first | refine blk_drewN ?_ _ | refine blk_drew ?_ | refine blk_alloc ?_ _)); exact BK132.out) hb); have n3_ := Aside0.mk (below_step (by repeat (first | (with_reducible first | exact HB.out | apply below_alloc | apply pw_below_drewN | apply below_drew1 | refine below_set ?_ GE131.out | refine below_set ?_ GE132.out) | exact HB.out)) hb); clear HO135; clear BK131; clear BK132; clear HB; have HO135 := n0_; have BK131 := n1_; have BK132 := n2_; have HB := n3_; clear n0_ n1_ n2_ n3_; (try clear hb); (try clear hb2); (try clear hk); (try clear hi)))
      go_meet
      case rel => exact ⟨_, (true), (by first | rfl | (simp; done) | (simp [*]; done)), H', ⟨by first | omega | exact Nat.le_refl _⟩, ⟨by (with_reducible repeat (first | refine blk_drewN ?_ _ | refine blk_drew ?_ | refine blk_alloc ?_ _)); exact BK131.out⟩, ⟨by (with_reducible repeat (first | refine blk_drewN ?_ _ | refine blk_drew ?_ | refine blk_alloc ?_ _)); exact BK132.out⟩, ⟨by repeat (first | (with_reducible first | exact HB.out | apply below_alloc | apply pw_below_drewN | apply below_drew1 | refine below_set ?_ GE131.out | refine below_set ?_ GE132.out) | exact HB.out)⟩⟩
  case rest =>
    clear HC4
    try clear c1
    try clear c2
    try clear p2
    try clear c3
    try clear c7
    try clear c12
    try clear c13
    try clear c13b0
    try clear c13b1
    try clear c13b2
    try clear c14
    try clear c14b0
    try clear c14b1
    try clear c14b2
    try clear c16
    try clear c18
    try clear c19
    try clear c21
    try clear c26
    try clear c30
    try clear hcz17_0
    try clear hcz17_1
    try clear hcz17_2
    try clear hcz17_3
    try clear hcz17_4
    try clear hcz19_0
    try clear hcz19_1
    try clear hcz19_2
    try clear hcz20_0
    try clear hcz20_1
    try clear hcz20_2
    try clear hcz20_3
    try clear hcz20_4
    try clear hcz22_0
    try clear hcz22_1
    try clear hcz22_2
    try clear hcz22_3
    try clear hcz22_4
    try clear hcz24_0
    try clear hcz24_1
    try clear hcz24_2
    try clear hcz25_0
    try clear hcz25_1
    try clear hcz25_2
    try clear hcz25_3
    try clear hcz25_4
    try clear hcz27_0
    try clear hcz27_1
    try clear hcz27_2
    try clear hcz27_3
    try clear hcz27_4
    try clear hcz29_0
    try clear hcz29_1
    try clear hcz29_2
    try clear hcz31_0
    try clear hcz31_1
    try clear hcz31_2
    try clear hcz31_3
    try clear hcz31_4
    try clear hcz8_0
    try clear hcz8_1
    try clear hcz8_2
    try clear hcz8_3
    try clear hcz8_4
    try clear hfz17_0
    try clear hfz17_1
    try clear hfz17_2
    try clear hfz17_3
    try clear hfz17_4
    try clear hfz19_0
    try clear hfz19_1
    try clear hfz19_2
    try clear hfz20_0
    try clear hfz20_1
    try clear hfz20_2
    try clear hfz20_3
    try clear hfz20_4
    try clear hfz22_0
    try clear hfz22_1
    try clear hfz22_2
    try clear hfz22_3
    try clear hfz22_4
    try clear hfz24_0
    try clear hfz24_1
    try clear hfz24_2
    try clear hfz25_0
    try clear hfz25_1
    try clear hfz25_2
    try clear hfz25_3
    try clear hfz25_4
    try clear hfz27_0
    try clear hfz27_1
    try clear hfz27_2
    try clear hfz27_3
    try clear hfz27_4
    try clear hfz29_0
    try clear hfz29_1
    try clear hfz29_2
    try clear hfz31_0
    try clear hfz31_1
    try clear hfz31_2
    try clear hfz31_3
    try clear hfz31_4
    try clear hfz8_0
    try clear hfz8_1
    try clear hfz8_2
    try clear hfz8_3
    try clear hfz8_4
    obtain ⟨kq, x39_3, rfl, HA, HJ3, BK131, BK132, HB⟩ := hcut
    cases kq with
    | zero => exact absurd HA.out (by simp [class_Has.j0])
    | succ kj3 =>
      have H := HA.out
      clear HA
      simp only [class_Has.j0] at H
      by_cases c33 : x39_3 = true
      · subst c33
        have H1 : (some false) = some r := by rw [if_pos rfl] at H; exact H
        clear H
        have H := H1
        clear H1
        obtain rfl := Option.some.inj H
        go_wp2
        go_ret
        exact ⟨by first | rfl | (simp [errW_none, errW_some] <;> rfl) | (simp [*, errW_none, errW_some] <;> rfl), by repeat (first | (with_reducible first | exact HB.out | apply below_alloc | apply pw_below_drewN | apply below_drew1 | refine below_set ?_ GE131.out | refine below_set ?_ GE132.out) | exact HB.out)⟩
      · replace c33 := Bool.eq_false_iff.mpr c33
        subst c33
        have H1 : ((class_Caps.f kj3 l0_0 l0_1 a0_2 a0_3 a0_4).bind fun t138 => (class_Has.l0 kj3 (t133.length : Int) t138 (t138.length : Int) 0 l1_0 l1_1 l1_2)) = some r := by rw [if_neg (show ¬ (false = true) by decide)] at H; exact H
        clear H
        have H := H1
        clear H1
        replace H := Option.bind_eq_some_iff.mp H
        obtain ⟨t138, A340, H⟩ := H
        replace H : (class_Has.l0 kj3 (t133.length : Int) t138 (t138.length : Int) 0 l1_0 l1_1 l1_2) = some r := H
        have A34 := Aside0.mk A340
        clear A340
        have H' := Aside0.mk H
        clear H
        have hnb35 := NB131_132.out
        have hnc35 := NB132_131.out
        have hcz36_0 : wc.cell? ⟨gb131, 0, none⟩ = some (.slice A0_0 l0_0.length c0_0) := (blk_cell BK131.out 0).trans rfl
        have hcz36_1 : wc.cell? ⟨gb131, 1, none⟩ = some (.slice A0_1 l0_1.length c0_1) := (blk_cell BK131.out 1).trans rfl
        have hcz36_2 : wc.cell? ⟨gb131, 2, none⟩ = some (.int .i64 a0_2) := (blk_cell BK131.out 2).trans rfl
        have hcz36_3 : wc.cell? ⟨gb131, 3, none⟩ = some (.int .i64 a0_3) := (blk_cell BK131.out 3).trans rfl
        have hcz36_4 : wc.cell? ⟨gb131, 4, none⟩ = some (.int .i64 a0_4) := (blk_cell BK131.out 4).trans rfl
        have hfz36_0 := blk_frozen BK131.out 0
        have hfz36_1 := blk_frozen BK131.out 1
        have hfz36_2 := blk_frozen BK131.out 2
        have hfz36_3 := blk_frozen BK131.out 3
        have hfz36_4 := blk_frozen BK131.out 4
        go_wp2_with (first | ((with_reducible refine gate_callee (f := 23) rfl ?_); refine goesL_ (some 41) rfl rfl Try.func23 (by kernel_rfl) rfl #[.agg #[.slice A0_0 l0_0.length c0_0, .slice A0_1 l0_1.length c0_1, .int .i64 a0_2, .int .i64 a0_3, .int .i64 a0_4]] rfl (by (try simp only [List.map_toArray, List.map_cons, List.map_nil]); first | done | rfl | (simp only [List.length_drop, List.length_take]; rfl)) ?_; (with_reducible refine (class_Caps.calls kj3 _ _ l0_0 _ _ l0_1 a0_2 a0_3 a0_4 t138 _ ?side1 ?side2 ?side3 ?side4 A34.out).mono ?_); (case side1 => repeat (first | exact (Kd.C_below HR0_0.out HB.out) | (with_reducible refine Kd.C_alloc ?_ _) | (with_reducible refine Kd.C_drewN ?_ _) | (with_reducible refine Kd.C_drew ?_))); (case side2 => exact HC0_0.out); (case side3 => repeat (first | exact (Kd.C_below HR0_1.out HB.out) | (with_reducible refine Kd.C_alloc ?_ _) | (with_reducible refine Kd.C_drewN ?_ _) | (with_reducible refine Kd.C_drew ?_))); (case side4 => exact HC0_1.out); rintro e w37 ⟨v139, rfl, ho0, hb⟩; refine ⟨_, rfl, ?_⟩; have n0_ := Aside0.mk (Kd.R_lower ho0 (below_size (by repeat (first | (with_reducible first | exact HB.out | apply below_alloc | apply pw_below_drewN | apply below_drew1 | refine below_set ?_ GE131.out | refine below_set ?_ GE132.out) | exact HB.out)))); have n1_ := Aside0.mk (blk_below (g := gb131) (o := .cells #[.slice A0_0 l0_0.length c0_0, .slice A0_1 l0_1.length c0_1, .int .i64 a0_2, .int .i64 a0_3, .int .i64 a0_4] 25 (0, 0)) (by (with_reducible repeat (first | refine blk_drewN ?_ _ | refine blk_drew ?_ | refine blk_alloc ?_ _)); exact BK131.out) hb); have n2_ := Aside0.mk (blk_below (g := gb132) (o := .cells #[.slice A1_0 l1_0.length c1_0, .slice A1_1 l1_1.length c1_1, .slice A1_2 l1_2.length c1_2] 31 (0, 0)) (by (with_reducible repeat (first | refine blk_drewN ?_ _ | refine blk_drew ?_ | refine blk_alloc ?_ _)); exact BK132.out) hb); have n3_ := Aside0.mk (below_step (by repeat (first | (with_reducible first | exact HB.out | apply below_alloc | apply pw_below_drewN | apply below_drew1 | refine below_set ?_ GE131.out | refine below_set ?_ GE132.out) | exact HB.out)) hb); clear BK131; clear BK132; clear HB; have HO140 := n0_; have BK131 := n1_; have BK132 := n2_; have HB := n3_; clear n0_ n1_ n2_ n3_; (try clear hb); (try clear hb2); (try clear hk); (try clear hi); (try clear ho0); obtain ⟨Ao38, co38, eo38⟩ := Kd.R_slice HO140.out; subst eo38))
        go_loopg [43] kj3 (fun kq v43 w' => ∃ (x43_2 : Int), v43 = .int .i64 x43_2 ∧ Aside0 (class_Has.l0 kq (t133.length : Int) t138 (t138.length : Int) x43_2 l1_0 l1_1 l1_2 = some r) ∧ Aside0 (kq ≤ kj3) ∧ Aside0 (Kd.R (Kd.int .i64) 3 w' w.heap.size (fun _ => True) (.slice Ao38 t138.length co38) t138) ∧ Aside0 (w'.heap[gb131]? = some (.cells #[(.slice A0_0 l0_0.length c0_0), (.slice A0_1 l0_1.length c0_1), .int .i64 a0_2, .int .i64 a0_3, .int .i64 a0_4] 25 (0, 0))) ∧ Aside0 (w'.heap[gb132]? = some (.cells #[(.slice A1_0 l1_0.length c1_0), (.slice A1_1 l1_1.length c1_1), (.slice A1_2 l1_2.length c1_2)] 31 (0, 0))) ∧ Aside0 (Below w.heap.size w w'))
        case atStart => exact ⟨(0), (by first | rfl | (simp; done) | (simp [*]; done)), H', ⟨Nat.le_refl _⟩, ⟨by (with_reducible repeat (first | apply Kd.R_alloc | apply Kd.R_drewN | apply Kd.R_drew)); exact HO140.out⟩, ⟨by (with_reducible repeat (first | refine blk_drewN ?_ _ | refine blk_drew ?_ | refine blk_alloc ?_ _)); exact BK131.out⟩, ⟨by (with_reducible repeat (first | refine blk_drewN ?_ _ | refine blk_drew ?_ | refine blk_alloc ?_ _)); exact BK132.out⟩, ⟨by repeat (first | (with_reducible first | exact HB.out | apply below_alloc | apply pw_below_drewN | apply below_drew1 | refine below_set ?_ GE131.out | refine below_set ?_ GE132.out) | exact HB.out)⟩⟩
        case round =>
          clear H'
          try clear c1
          try clear c2
          try clear p2
          try clear c3
          try clear c7
          try clear c12
          try clear c13
          try clear c13b0
          try clear c13b1
          try clear c13b2
          try clear c14
          try clear c14b0
          try clear c14b1
          try clear c14b2
          try clear c16
          try clear c18
          try clear c19
          try clear c21
          try clear c23
          try clear c26
          try clear c30
          try clear c33
          try clear c35
          try clear hcz17_0
          try clear hcz17_1
          try clear hcz17_2
          try clear hcz17_3
          try clear hcz17_4
          try clear hcz19_0
          try clear hcz19_1
          try clear hcz19_2
          try clear hcz20_0
          try clear hcz20_1
          try clear hcz20_2
          try clear hcz20_3
          try clear hcz20_4
          try clear hcz22_0
          try clear hcz22_1
          try clear hcz22_2
          try clear hcz22_3
          try clear hcz22_4
          try clear hcz24_0
          try clear hcz24_1
          try clear hcz24_2
          try clear hcz25_0
          try clear hcz25_1
          try clear hcz25_2
          try clear hcz25_3
          try clear hcz25_4
          try clear hcz27_0
          try clear hcz27_1
          try clear hcz27_2
          try clear hcz27_3
          try clear hcz27_4
          try clear hcz29_0
          try clear hcz29_1
          try clear hcz29_2
          try clear hcz31_0
          try clear hcz31_1
          try clear hcz31_2
          try clear hcz31_3
          try clear hcz31_4
          try clear hcz36_0
          try clear hcz36_1
          try clear hcz36_2
          try clear hcz36_3
          try clear hcz36_4
          try clear hcz8_0
          try clear hcz8_1
          try clear hcz8_2
          try clear hcz8_3
          try clear hcz8_4
          try clear hfz17_0
          try clear hfz17_1
          try clear hfz17_2
          try clear hfz17_3
          try clear hfz17_4
          try clear hfz19_0
          try clear hfz19_1
          try clear hfz19_2
          try clear hfz20_0
          try clear hfz20_1
          try clear hfz20_2
          try clear hfz20_3
          try clear hfz20_4
          try clear hfz22_0
          try clear hfz22_1
          try clear hfz22_2
          try clear hfz22_3
          try clear hfz22_4
          try clear hfz24_0
          try clear hfz24_1
          try clear hfz24_2
          try clear hfz25_0
          try clear hfz25_1
          try clear hfz25_2
          try clear hfz25_3
          try clear hfz25_4
          try clear hfz27_0
          try clear hfz27_1
          try clear hfz27_2
          try clear hfz27_3
          try clear hfz27_4
          try clear hfz29_0
          try clear hfz29_1
          try clear hfz29_2
          try clear hfz31_0
          try clear hfz31_1
          try clear hfz31_2
          try clear hfz31_3
          try clear hfz31_4
          try clear hfz36_0
          try clear hfz36_1
          try clear hfz36_2
          try clear hfz36_3
          try clear hfz36_4
          try clear hfz8_0
          try clear hfz8_1
          try clear hfz8_2
          try clear hfz8_3
          try clear hfz8_4
          try clear p2
          obtain ⟨x43_2, rfl, HA, HK2, HO_41, BK131, BK132, HB⟩ := hrel
          cases gk with
          | zero => exact absurd HA.out (by simp [class_Has.l0])
          | succ k2 =>
            have H := HA.out
            clear HA
            simp only [class_Has.l0] at H
            by_cases c39 : x43_2 < (t138.length : Int)
            · rw [if_pos c39] at H
              have c39b0 : decide (x43_2 < (t138.length : Int)) = true := decide_eq_true c39
              clear c39
              by_cases c40 : 0 ≤ x43_2
              · rw [if_pos c40] at H
                have c40b0 : decide (0 ≤ x43_2) = true := decide_eq_true c40
                clear c40
                by_cases c41 : x43_2 < (t138.length : Int)
                · rw [if_pos c41] at H
                  have c41b0 : decide (x43_2 < (t138.length : Int)) = true := decide_eq_true c41
                  clear c41
                  by_cases c42 : x43_2 < (t133.length : Int)
                  · rw [if_pos c42] at H
                    have c42b0 : decide (x43_2 < (t133.length : Int)) = true := decide_eq_true c42
                    clear c42
                    by_cases c43 : x43_2 < (l1_0.length : Int)
                    · rw [if_pos c43] at H
                      have c43b0 : decide (x43_2 < (l1_0.length : Int)) = true := decide_eq_true c43
                      clear c43
                      by_cases c44 : ((rd_L7 l1_0 x43_2).length : Int) > (rd t138 x43_2)
                      · rw [if_pos c44] at H
                        have c44b0 : decide ((rd t138 x43_2) < ((rd_L7 l1_0 x43_2).length : Int)) = true := decide_eq_true c44
                        clear c44
                        obtain rfl := Option.some.inj H
                        have p141 : 0 ≤ (x43_2 : Int) := of_decide_eq_true (by first | (with_reducible assumption) | assumption)
                        have q141 : x43_2 < (t138.length : Int) := of_decide_eq_true (by first | (with_reducible assumption) | assumption)
                        (try (obtain ⟨Aoo141, coo141, eoo141⟩ := Kd.R_slice HO_41.out; subst eoo141))
                        obtain ⟨ad141, e141, hx141_0⟩ := Kd.at_int (Kd.R_reads' HO_41.out).2.2 x43_2 p141 q141
                        cases e141
                        replace p141 := eq_true p141
                        replace q141 := eq_true q141
                        have hnb45 := NB132_131.out
                        have hnc45 := NB131_132.out
                        have hcz46_0 : wr.cell? ⟨gb132, 0, none⟩ = some (.slice A1_0 l1_0.length c1_0) := (blk_cell BK132.out 0).trans rfl
                        have hcz46_1 : wr.cell? ⟨gb132, 1, none⟩ = some (.slice A1_1 l1_1.length c1_1) := (blk_cell BK132.out 1).trans rfl
                        have hcz46_2 : wr.cell? ⟨gb132, 2, none⟩ = some (.slice A1_2 l1_2.length c1_2) := (blk_cell BK132.out 2).trans rfl
                        have hfz46_0 := blk_frozen BK132.out 0
                        have hfz46_1 := blk_frozen BK132.out 1
                        have hfz46_2 := blk_frozen BK132.out 2
                        have p142 : 0 ≤ (x43_2 : Int) := of_decide_eq_true (by first | (with_reducible assumption) | assumption)
                        have q142 : x43_2 < (l1_0.length : Int) := of_decide_eq_true (by first | (with_reducible assumption) | assumption)
                        obtain ⟨ad142, A142_0, c142_0, e142, hx142_0, hl142_0, hi142_0⟩ := at_L7 HR1_0.out x43_2 p142 q142
                        cases e142
                        replace hx142_0 := (HB.out.cell (World.block_lt_of_cell? w _ hx142_0)).trans hx142_0
                        have HR142_0 := Aside0.mk hi142_0
                        have HC142_0 := Aside0.mk hl142_0
                        clear hi142_0 hl142_0
                        replace p142 := eq_true p142
                        replace q142 := eq_true q142
                        go_wp2
                        go_ret
                        exact ⟨by first | rfl | (simp [errW_none, errW_some] <;> rfl) | (simp [*, errW_none, errW_some] <;> rfl), by repeat (first | (with_reducible first | exact HB.out | apply below_alloc | apply pw_below_drewN | apply below_drew1 | refine below_set ?_ GE131.out | refine below_set ?_ GE132.out) | exact HB.out)⟩
                      · rw [if_neg c44] at H
                        have c44b0 : decide ((rd t138 x43_2) < ((rd_L7 l1_0 x43_2).length : Int)) = false := decide_eq_false c44
                        clear c44
                        by_cases c47 : x43_2 ≥ (t133.length : Int)
                        · rw [if_pos c47] at H
                          have c47b0 : decide ((t133.length : Int) ≤ x43_2) = true := decide_eq_true c47
                          clear c47
                          obtain ⟨ji48, hji48⟩ : ∃ j_ : Int, (wrap64 (x43_2 - (t133.length : Int))) = j_ := ⟨_, rfl⟩
                          replace H : (if 0 ≤ (ji48) then (if (ji48) < (l1_1.length : Int) then (if ((rd_L7 l1_1 (ji48)).length : Int) > (rd t138 x43_2) then (some false) else (class_Has.l0 k2 (t133.length : Int) t138 (t138.length : Int) (wrap64 (x43_2 + 1)) l1_0 l1_1 l1_2)) else (none)) else (none)) = some r := by first | (rw [hji48] at H; exact H) | (simp only [hji48] at H ⊢; exact H)
                          have hji48w : (IntKind.i64.wrap (x43_2 - (t133.length : Int))) = ji48 := (i64_w _).trans hji48
                          by_cases c49 : 0 ≤ (ji48)
                          · rw [if_pos c49] at H
                            have c49b0 : decide (0 ≤ (ji48)) = true := decide_eq_true c49
                            clear c49
                            by_cases c50 : (ji48) < (l1_1.length : Int)
                            · rw [if_pos c50] at H
                              have c50b0 : decide ((ji48) < (l1_1.length : Int)) = true := decide_eq_true c50
                              clear c50
                              by_cases c51 : ((rd_L7 l1_1 (ji48)).length : Int) > (rd t138 x43_2)
                              · rw [if_pos c51] at H
                                have c51b0 : decide ((rd t138 x43_2) < ((rd_L7 l1_1 (ji48)).length : Int)) = true := decide_eq_true c51
                                clear c51
                                obtain rfl := Option.some.inj H
                                have p141 : 0 ≤ (x43_2 : Int) := of_decide_eq_true (by first | (with_reducible assumption) | assumption)
                                have q141 : x43_2 < (t138.length : Int) := of_decide_eq_true (by first | (with_reducible assumption) | assumption)
                                (try (obtain ⟨Aoo141, coo141, eoo141⟩ := Kd.R_slice HO_41.out; subst eoo141))
                                obtain ⟨ad141, e141, hx141_0⟩ := Kd.at_int (Kd.R_reads' HO_41.out).2.2 x43_2 p141 q141
                                cases e141
                                replace p141 := eq_true p141
                                replace q141 := eq_true q141
                                have hnb52 := NB132_131.out
                                have hnc52 := NB131_132.out
                                have hcz53_0 : wr.cell? ⟨gb132, 0, none⟩ = some (.slice A1_0 l1_0.length c1_0) := (blk_cell BK132.out 0).trans rfl
                                have hcz53_1 : wr.cell? ⟨gb132, 1, none⟩ = some (.slice A1_1 l1_1.length c1_1) := (blk_cell BK132.out 1).trans rfl
                                have hcz53_2 : wr.cell? ⟨gb132, 2, none⟩ = some (.slice A1_2 l1_2.length c1_2) := (blk_cell BK132.out 2).trans rfl
                                have hfz53_0 := blk_frozen BK132.out 0
                                have hfz53_1 := blk_frozen BK132.out 1
                                have hfz53_2 := blk_frozen BK132.out 2
                                have p142 : 0 ≤ (x43_2 : Int) := of_decide_eq_true (by first | (with_reducible assumption) | assumption)
                                have q142 : x43_2 < (l1_0.length : Int) := of_decide_eq_true (by first | (with_reducible assumption) | assumption)
                                obtain ⟨ad142, A142_0, c142_0, e142, hx142_0, hl142_0, hi142_0⟩ := at_L7 HR1_0.out x43_2 p142 q142
                                cases e142
                                replace hx142_0 := (HB.out.cell (World.block_lt_of_cell? w _ hx142_0)).trans hx142_0
                                have HR142_0 := Aside0.mk hi142_0
                                have HC142_0 := Aside0.mk hl142_0
                                clear hi142_0 hl142_0
                                replace p142 := eq_true p142
                                replace q142 := eq_true q142
                                have p143 : 0 ≤ ((ji48) : Int) := of_decide_eq_true (by first | (with_reducible assumption) | assumption)
                                have q143 : (ji48) < (l1_1.length : Int) := of_decide_eq_true (by first | (with_reducible assumption) | assumption)
                                obtain ⟨ad143, A143_0, c143_0, e143, hx143_0, hl143_0, hi143_0⟩ := at_L7 HR1_1.out (ji48) p143 q143
                                cases e143
                                replace hx143_0 := (HB.out.cell (World.block_lt_of_cell? w _ hx143_0)).trans hx143_0
                                have HR143_0 := Aside0.mk hi143_0
                                have HC143_0 := Aside0.mk hl143_0
                                clear hi143_0 hl143_0
                                replace p143 := eq_true p143
                                replace q143 := eq_true q143
                                go_wp2
                                go_ret
                                exact ⟨by first | rfl | (simp [errW_none, errW_some] <;> rfl) | (simp only [← hji48]; first | rfl | (simp [errW_none, errW_some] <;> rfl)) | (simp [*, errW_none, errW_some] <;> rfl), by repeat (first | (with_reducible first | exact HB.out | apply below_alloc | apply pw_below_drewN | apply below_drew1 | refine below_set ?_ GE131.out | refine below_set ?_ GE132.out) | exact HB.out)⟩
                              · rw [if_neg c51] at H
                                have c51b0 : decide ((rd t138 x43_2) < ((rd_L7 l1_1 (ji48)).length : Int)) = false := decide_eq_false c51
                                clear c51
                                have H' := Aside0.mk H
                                clear H
                                have p141 : 0 ≤ (x43_2 : Int) := of_decide_eq_true (by first | (with_reducible assumption) | assumption)
                                have q141 : x43_2 < (t138.length : Int) := of_decide_eq_true (by first | (with_reducible assumption) | assumption)
                                (try (obtain ⟨Aoo141, coo141, eoo141⟩ := Kd.R_slice HO_41.out; subst eoo141))
                                obtain ⟨ad141, e141, hx141_0⟩ := Kd.at_int (Kd.R_reads' HO_41.out).2.2 x43_2 p141 q141
                                cases e141
                                replace p141 := eq_true p141
                                replace q141 := eq_true q141
                                have hnb54 := NB132_131.out
                                have hnc54 := NB131_132.out
                                have hcz55_0 : wr.cell? ⟨gb132, 0, none⟩ = some (.slice A1_0 l1_0.length c1_0) := (blk_cell BK132.out 0).trans rfl
                                have hcz55_1 : wr.cell? ⟨gb132, 1, none⟩ = some (.slice A1_1 l1_1.length c1_1) := (blk_cell BK132.out 1).trans rfl
                                have hcz55_2 : wr.cell? ⟨gb132, 2, none⟩ = some (.slice A1_2 l1_2.length c1_2) := (blk_cell BK132.out 2).trans rfl
                                have hfz55_0 := blk_frozen BK132.out 0
                                have hfz55_1 := blk_frozen BK132.out 1
                                have hfz55_2 := blk_frozen BK132.out 2
                                have p142 : 0 ≤ (x43_2 : Int) := of_decide_eq_true (by first | (with_reducible assumption) | assumption)
                                have q142 : x43_2 < (l1_0.length : Int) := of_decide_eq_true (by first | (with_reducible assumption) | assumption)
                                obtain ⟨ad142, A142_0, c142_0, e142, hx142_0, hl142_0, hi142_0⟩ := at_L7 HR1_0.out x43_2 p142 q142
                                cases e142
                                replace hx142_0 := (HB.out.cell (World.block_lt_of_cell? w _ hx142_0)).trans hx142_0
                                have HR142_0 := Aside0.mk hi142_0
                                have HC142_0 := Aside0.mk hl142_0
                                clear hi142_0 hl142_0
                                replace p142 := eq_true p142
                                replace q142 := eq_true q142
                                have p143 : 0 ≤ ((ji48) : Int) := of_decide_eq_true (by first | (with_reducible assumption) | assumption)
                                have q143 : (ji48) < (l1_1.length : Int) := of_decide_eq_true (by first | (with_reducible assumption) | assumption)
                                obtain ⟨ad143, A143_0, c143_0, e143, hx143_0, hl143_0, hi143_0⟩ := at_L7 HR1_1.out (ji48) p143 q143
                                cases e143
                                replace hx143_0 := (HB.out.cell (World.block_lt_of_cell? w _ hx143_0)).trans hx143_0
                                have HR143_0 := Aside0.mk hi143_0
                                have HC143_0 := Aside0.mk hl143_0
                                clear hi143_0 hl143_0
                                replace p143 := eq_true p143
                                replace q143 := eq_true q143
                                go_wp2
                                go_roundg k2
                                case measure => have := HJ3.out; have := HK2.out; omega
                                case rel => exact ⟨(wrap64 (x43_2 + 1)), (by first | rfl | (simp; done) | (simp [*]; done)), H', ⟨by have := HJ3.out; have := HK2.out; omega⟩, ⟨by (with_reducible repeat (first | apply Kd.R_alloc | apply Kd.R_drewN | apply Kd.R_drew)); exact HO_41.out⟩, ⟨by (with_reducible repeat (first | refine blk_drewN ?_ _ | refine blk_drew ?_ | refine blk_alloc ?_ _)); exact BK131.out⟩, ⟨by (with_reducible repeat (first | refine blk_drewN ?_ _ | refine blk_drew ?_ | refine blk_alloc ?_ _)); exact BK132.out⟩, ⟨by repeat (first | (with_reducible first | exact HB.out | apply below_alloc | apply pw_below_drewN | apply below_drew1 | refine below_set ?_ GE131.out | refine below_set ?_ GE132.out) | exact HB.out)⟩⟩
                            · rw [if_neg c50] at H
                              exact absurd H (by simp)
                          · rw [if_neg c49] at H
                            exact absurd H (by simp)
                        · rw [if_neg c47] at H
                          have c47b0 : decide ((t133.length : Int) ≤ x43_2) = false := decide_eq_false c47
                          clear c47
                          have H' := Aside0.mk H
                          clear H
                          have p141 : 0 ≤ (x43_2 : Int) := of_decide_eq_true (by first | (with_reducible assumption) | assumption)
                          have q141 : x43_2 < (t138.length : Int) := of_decide_eq_true (by first | (with_reducible assumption) | assumption)
                          (try (obtain ⟨Aoo141, coo141, eoo141⟩ := Kd.R_slice HO_41.out; subst eoo141))
                          obtain ⟨ad141, e141, hx141_0⟩ := Kd.at_int (Kd.R_reads' HO_41.out).2.2 x43_2 p141 q141
                          cases e141
                          replace p141 := eq_true p141
                          replace q141 := eq_true q141
                          have hnb56 := NB132_131.out
                          have hnc56 := NB131_132.out
                          have hcz57_0 : wr.cell? ⟨gb132, 0, none⟩ = some (.slice A1_0 l1_0.length c1_0) := (blk_cell BK132.out 0).trans rfl
                          have hcz57_1 : wr.cell? ⟨gb132, 1, none⟩ = some (.slice A1_1 l1_1.length c1_1) := (blk_cell BK132.out 1).trans rfl
                          have hcz57_2 : wr.cell? ⟨gb132, 2, none⟩ = some (.slice A1_2 l1_2.length c1_2) := (blk_cell BK132.out 2).trans rfl
                          have hfz57_0 := blk_frozen BK132.out 0
                          have hfz57_1 := blk_frozen BK132.out 1
                          have hfz57_2 := blk_frozen BK132.out 2
                          have p142 : 0 ≤ (x43_2 : Int) := of_decide_eq_true (by first | (with_reducible assumption) | assumption)
                          have q142 : x43_2 < (l1_0.length : Int) := of_decide_eq_true (by first | (with_reducible assumption) | assumption)
                          obtain ⟨ad142, A142_0, c142_0, e142, hx142_0, hl142_0, hi142_0⟩ := at_L7 HR1_0.out x43_2 p142 q142
                          cases e142
                          replace hx142_0 := (HB.out.cell (World.block_lt_of_cell? w _ hx142_0)).trans hx142_0
                          have HR142_0 := Aside0.mk hi142_0
                          have HC142_0 := Aside0.mk hl142_0
                          clear hi142_0 hl142_0
                          replace p142 := eq_true p142
                          replace q142 := eq_true q142
                          go_wp2
                          go_roundg k2
                          case measure => have := HJ3.out; have := HK2.out; omega
                          case rel => exact ⟨(wrap64 (x43_2 + 1)), (by first | rfl | (simp; done) | (simp [*]; done)), H', ⟨by have := HJ3.out; have := HK2.out; omega⟩, ⟨by (with_reducible repeat (first | apply Kd.R_alloc | apply Kd.R_drewN | apply Kd.R_drew)); exact HO_41.out⟩, ⟨by (with_reducible repeat (first | refine blk_drewN ?_ _ | refine blk_drew ?_ | refine blk_alloc ?_ _)); exact BK131.out⟩, ⟨by (with_reducible repeat (first | refine blk_drewN ?_ _ | refine blk_drew ?_ | refine blk_alloc ?_ _)); exact BK132.out⟩, ⟨by repeat (first | (with_reducible first | exact HB.out | apply below_alloc | apply pw_below_drewN | apply below_drew1 | refine below_set ?_ GE131.out | refine below_set ?_ GE132.out) | exact HB.out)⟩⟩
                    · rw [if_neg c43] at H
                      exact absurd H (by simp)
                  · rw [if_neg c42] at H
                    have c42b0 : decide (x43_2 < (t133.length : Int)) = false := decide_eq_false c42
                    clear c42
                    by_cases c58 : x43_2 ≥ (t133.length : Int)
                    · rw [if_pos c58] at H
                      have c58b0 : decide ((t133.length : Int) ≤ x43_2) = true := decide_eq_true c58
                      clear c58
                      obtain ⟨ji59, hji59⟩ : ∃ j_ : Int, (wrap64 (x43_2 - (t133.length : Int))) = j_ := ⟨_, rfl⟩
                      replace H : (if 0 ≤ (ji59) then (if (ji59) < (l1_1.length : Int) then (if ((rd_L7 l1_1 (ji59)).length : Int) > (rd t138 x43_2) then (some false) else (class_Has.l0 k2 (t133.length : Int) t138 (t138.length : Int) (wrap64 (x43_2 + 1)) l1_0 l1_1 l1_2)) else (none)) else (none)) = some r := by first | (rw [hji59] at H; exact H) | (simp only [hji59] at H ⊢; exact H)
                      have hji59w : (IntKind.i64.wrap (x43_2 - (t133.length : Int))) = ji59 := (i64_w _).trans hji59
                      by_cases c60 : 0 ≤ (ji59)
                      · rw [if_pos c60] at H
                        have c60b0 : decide (0 ≤ (ji59)) = true := decide_eq_true c60
                        clear c60
                        by_cases c61 : (ji59) < (l1_1.length : Int)
                        · rw [if_pos c61] at H
                          have c61b0 : decide ((ji59) < (l1_1.length : Int)) = true := decide_eq_true c61
                          clear c61
                          by_cases c62 : ((rd_L7 l1_1 (ji59)).length : Int) > (rd t138 x43_2)
                          · rw [if_pos c62] at H
                            have c62b0 : decide ((rd t138 x43_2) < ((rd_L7 l1_1 (ji59)).length : Int)) = true := decide_eq_true c62
                            clear c62
                            obtain rfl := Option.some.inj H
                            have p141 : 0 ≤ (x43_2 : Int) := of_decide_eq_true (by first | (with_reducible assumption) | assumption)
                            have q141 : x43_2 < (t138.length : Int) := of_decide_eq_true (by first | (with_reducible assumption) | assumption)
                            (try (obtain ⟨Aoo141, coo141, eoo141⟩ := Kd.R_slice HO_41.out; subst eoo141))
                            obtain ⟨ad141, e141, hx141_0⟩ := Kd.at_int (Kd.R_reads' HO_41.out).2.2 x43_2 p141 q141
                            cases e141
                            replace p141 := eq_true p141
                            replace q141 := eq_true q141
                            have hnb63 := NB132_131.out
                            have hnc63 := NB131_132.out
                            have hcz64_0 : wr.cell? ⟨gb132, 0, none⟩ = some (.slice A1_0 l1_0.length c1_0) := (blk_cell BK132.out 0).trans rfl
                            have hcz64_1 : wr.cell? ⟨gb132, 1, none⟩ = some (.slice A1_1 l1_1.length c1_1) := (blk_cell BK132.out 1).trans rfl
                            have hcz64_2 : wr.cell? ⟨gb132, 2, none⟩ = some (.slice A1_2 l1_2.length c1_2) := (blk_cell BK132.out 2).trans rfl
                            have hfz64_0 := blk_frozen BK132.out 0
                            have hfz64_1 := blk_frozen BK132.out 1
                            have hfz64_2 := blk_frozen BK132.out 2
                            have p144 : 0 ≤ ((ji59) : Int) := of_decide_eq_true (by first | (with_reducible assumption) | assumption)
                            have q144 : (ji59) < (l1_1.length : Int) := of_decide_eq_true (by first | (with_reducible assumption) | assumption)
                            obtain ⟨ad144, A144_0, c144_0, e144, hx144_0, hl144_0, hi144_0⟩ := at_L7 HR1_1.out (ji59) p144 q144
                            cases e144
                            replace hx144_0 := (HB.out.cell (World.block_lt_of_cell? w _ hx144_0)).trans hx144_0
                            have HR144_0 := Aside0.mk hi144_0
                            have HC144_0 := Aside0.mk hl144_0
                            clear hi144_0 hl144_0
                            replace p144 := eq_true p144
                            replace q144 := eq_true q144
                            go_wp2
                            go_ret
                            exact ⟨by first | rfl | (simp [errW_none, errW_some] <;> rfl) | (simp only [← hji59]; first | rfl | (simp [errW_none, errW_some] <;> rfl)) | (simp [*, errW_none, errW_some] <;> rfl), by repeat (first | (with_reducible first | exact HB.out | apply below_alloc | apply pw_below_drewN | apply below_drew1 | refine below_set ?_ GE131.out | refine below_set ?_ GE132.out) | exact HB.out)⟩
                          · rw [if_neg c62] at H
                            have c62b0 : decide ((rd t138 x43_2) < ((rd_L7 l1_1 (ji59)).length : Int)) = false := decide_eq_false c62
                            clear c62
                            have H' := Aside0.mk H
                            clear H
                            have p141 : 0 ≤ (x43_2 : Int) := of_decide_eq_true (by first | (with_reducible assumption) | assumption)
                            have q141 : x43_2 < (t138.length : Int) := of_decide_eq_true (by first | (with_reducible assumption) | assumption)
                            (try (obtain ⟨Aoo141, coo141, eoo141⟩ := Kd.R_slice HO_41.out; subst eoo141))
                            obtain ⟨ad141, e141, hx141_0⟩ := Kd.at_int (Kd.R_reads' HO_41.out).2.2 x43_2 p141 q141
                            cases e141
                            replace p141 := eq_true p141
                            replace q141 := eq_true q141
                            have hnb65 := NB132_131.out
                            have hnc65 := NB131_132.out
                            have hcz66_0 : wr.cell? ⟨gb132, 0, none⟩ = some (.slice A1_0 l1_0.length c1_0) := (blk_cell BK132.out 0).trans rfl
                            have hcz66_1 : wr.cell? ⟨gb132, 1, none⟩ = some (.slice A1_1 l1_1.length c1_1) := (blk_cell BK132.out 1).trans rfl
                            have hcz66_2 : wr.cell? ⟨gb132, 2, none⟩ = some (.slice A1_2 l1_2.length c1_2) := (blk_cell BK132.out 2).trans rfl
                            have hfz66_0 := blk_frozen BK132.out 0
                            have hfz66_1 := blk_frozen BK132.out 1
                            have hfz66_2 := blk_frozen BK132.out 2
                            have p144 : 0 ≤ ((ji59) : Int) := of_decide_eq_true (by first | (with_reducible assumption) | assumption)
                            have q144 : (ji59) < (l1_1.length : Int) := of_decide_eq_true (by first | (with_reducible assumption) | assumption)
                            obtain ⟨ad144, A144_0, c144_0, e144, hx144_0, hl144_0, hi144_0⟩ := at_L7 HR1_1.out (ji59) p144 q144
                            cases e144
                            replace hx144_0 := (HB.out.cell (World.block_lt_of_cell? w _ hx144_0)).trans hx144_0
                            have HR144_0 := Aside0.mk hi144_0
                            have HC144_0 := Aside0.mk hl144_0
                            clear hi144_0 hl144_0
                            replace p144 := eq_true p144
                            replace q144 := eq_true q144
                            go_wp2
                            go_roundg k2
                            case measure => have := HJ3.out; have := HK2.out; omega
                            case rel => exact ⟨(wrap64 (x43_2 + 1)), (by first | rfl | (simp; done) | (simp [*]; done)), H', ⟨by have := HJ3.out; have := HK2.out; omega⟩, ⟨by (with_reducible repeat (first | apply Kd.R_alloc | apply Kd.R_drewN | apply Kd.R_drew)); exact HO_41.out⟩, ⟨by (with_reducible repeat (first | refine blk_drewN ?_ _ | refine blk_drew ?_ | refine blk_alloc ?_ _)); exact BK131.out⟩, ⟨by (with_reducible repeat (first | refine blk_drewN ?_ _ | refine blk_drew ?_ | refine blk_alloc ?_ _)); exact BK132.out⟩, ⟨by repeat (first | (with_reducible first | exact HB.out | apply below_alloc | apply pw_below_drewN | apply below_drew1 | refine below_set ?_ GE131.out | refine below_set ?_ GE132.out) | exact HB.out)⟩⟩
                        · rw [if_neg c61] at H
                          exact absurd H (by simp)
                      · rw [if_neg c60] at H
                        exact absurd H (by simp)
                    · rw [if_neg c58] at H
                      have c58b0 : decide ((t133.length : Int) ≤ x43_2) = false := decide_eq_false c58
                      clear c58
                      have H' := Aside0.mk H
                      clear H
                      have p141 : 0 ≤ (x43_2 : Int) := of_decide_eq_true (by first | (with_reducible assumption) | assumption)
                      have q141 : x43_2 < (t138.length : Int) := of_decide_eq_true (by first | (with_reducible assumption) | assumption)
                      (try (obtain ⟨Aoo141, coo141, eoo141⟩ := Kd.R_slice HO_41.out; subst eoo141))
                      obtain ⟨ad141, e141, hx141_0⟩ := Kd.at_int (Kd.R_reads' HO_41.out).2.2 x43_2 p141 q141
                      cases e141
                      replace p141 := eq_true p141
                      replace q141 := eq_true q141
                      go_wp2
                      go_roundg k2
                      case measure => have := HJ3.out; have := HK2.out; omega
                      case rel => exact ⟨(wrap64 (x43_2 + 1)), (by first | rfl | (simp; done) | (simp [*]; done)), H', ⟨by have := HJ3.out; have := HK2.out; omega⟩, ⟨by (with_reducible repeat (first | apply Kd.R_alloc | apply Kd.R_drewN | apply Kd.R_drew)); exact HO_41.out⟩, ⟨by (with_reducible repeat (first | refine blk_drewN ?_ _ | refine blk_drew ?_ | refine blk_alloc ?_ _)); exact BK131.out⟩, ⟨by (with_reducible repeat (first | refine blk_drewN ?_ _ | refine blk_drew ?_ | refine blk_alloc ?_ _)); exact BK132.out⟩, ⟨by repeat (first | (with_reducible first | exact HB.out | apply below_alloc | apply pw_below_drewN | apply below_drew1 | refine below_set ?_ GE131.out | refine below_set ?_ GE132.out) | exact HB.out)⟩⟩
                · rw [if_neg c41] at H
                  exact absurd H (by simp)
              · rw [if_neg c40] at H
                exact absurd H (by simp)
            · rw [if_neg c39] at H
              have c39b0 : decide (x43_2 < (t138.length : Int)) = false := decide_eq_false c39
              clear c39
              obtain rfl := Option.some.inj H
              go_wp2
              go_ret
              exact ⟨by first | rfl | (simp [errW_none, errW_some] <;> rfl) | (simp [*, errW_none, errW_some] <;> rfl), by repeat (first | (with_reducible first | exact HB.out | apply below_alloc | apply pw_below_drewN | apply below_drew1 | refine below_set ?_ GE131.out | refine below_set ?_ GE132.out) | exact HB.out)⟩

end Go.Proofs.Ytmlnoapfhimgoaa.P
