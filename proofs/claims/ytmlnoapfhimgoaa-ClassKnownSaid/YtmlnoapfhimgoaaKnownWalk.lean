/- The law ClassKnown, walked over the contracts of what it calls. -/
import Derived.Test.YtmlnoapfhimgoaaKnownA
import Derived.Test.YtmlnoapfhimgoaaAwake
import Derived.WalkSpells
import Derived.Deep.RegionHeld3
namespace Go.Proofs.Ytmlnoapfhimgoaa.H
set_option linter.unusedVariables false
set_option linter.unusedSimpArgs false
open Go.RowKit Go.Proofs.Ytmlnoapfhimgoaa.G Go.Proofs.Ytmlnoapfhimgoaa.P Go.Proofs.YtmlnoapfhimgoaaW.PrintWords Go.Proofs.YtmlnoapfhimgoaaW.PrintLast Go.Proofs.YtmlnoapfhimgoaaW.PrintMore
def Ans (w : World) (e : Ending) (w' : World) : Prop := e = .returned (.bool true) ∧ Below w.heap.size w w'
theorem awake9 (w : World) : Calls Try.prog 9 #[] w fun e w' => e = .returned (.bool true) ∧ Below w.heap.size w w' :=
  crossroadslaw17_awake.calls 60 true w Pure.awake_k
theorem nthN {x : S25} {n : Int} {r1 r2 : List (List Int)} {r3 : List Bool} {r4 : Bool} (h : class_Nth.f x.f0 x.f1 x.f2 x.f3 x.f4 n = some (r1, r2, r3, r4)) {A0 A1 : Option Addr} {c0 c1 : Nat} {W : World} (h0 : Kd.C k38 W A0 x.f0.length x.f0) (l0 : x.f0.length ≤ c0) (h1 : Kd.C (Kd.int .i64) W A1 x.f1.length x.f1) (l1 : x.f1.length ≤ c1) :
    Calls Try.prog 11 #[.agg #[.slice A0 x.f0.length c0, .slice A1 x.f1.length c1, .int .i64 x.f2, .int .i64 x.f3, .int .i64 x.f4], .int .i64 n] W fun e w' => ∃ B0 d0 B1 d1 B2 d2, e = .returned (.tuple #[.agg #[.slice B0 r1.length d0, .slice B1 r2.length d1, .slice B2 r3.length d2], .bool r4]) ∧ (r1.length ≤ d0 ∧ Kd.C (Kd.slice 5 (Kd.int .u8)) w' B0 r1.length r1) ∧ (r2.length ≤ d1 ∧ Kd.C (Kd.slice 5 (Kd.int .u8)) w' B1 r2.length r2) ∧ (r3.length ≤ d2 ∧ Kd.C Kd.bool w' B2 r3.length r3) ∧ Below W.heap.size W w' := by
  refine (class_Nth.calls A0 c0 x.f0 A1 c1 x.f1 x.f2 x.f3 x.f4 n r1 r2 r3 r4 W h0 l0 h1 l1 h).mono ?_
  rintro e w' ⟨v0, v1, v2, rfl, hV0, hV1, hV2, hB⟩
  obtain ⟨B0, d0, rfl, g0, f0⟩ := hV0
  have C0 := Kd.F_now f0
  obtain ⟨B1, d1, rfl, g1, f1⟩ := hV1
  have C1 := Kd.F_now f1
  obtain ⟨B2, d2, rfl, g2, f2⟩ := hV2
  have C2 := Kd.F_now f2
  exact ⟨B0, d0, B1, d1, B2, d2, rfl, ⟨g0, C0⟩, ⟨g1, C1⟩, ⟨g2, C2⟩, hB⟩
set_option maxHeartbeats 8000000 in
set_option maxRecDepth 100000 in
theorem known5 (w : World) : Calls Try.prog 5 #[] w (Ans w) := by
  have hu38 := Try.underlying38
  have hu25 := Try.underlying25
  have hu31 := Try.underlying31
  go_enter Try.func5, Try.ntmps5
  go_wp2_with (go_at_call 9; refine (awake9 _).mono ?_; rintro e w1 ⟨rfl, hB⟩; have HB1 := Aside0.mk hB; clear hB)
  have HC := Aside0.mk (bads_C w1)
  have HB2 := Aside0.mk (HB1.out.trans ((allocs_below (bobj w1.heap.size) w1).mono HB1.out.size))
  obtain ⟨w2, hw2⟩ : ∃ w2, allocs w1 (bobj w1.heap.size) = w2 := ⟨_, rfl⟩
  rw [hw2] at HC HB2
  unfold allocs bobj bvals at hw2
  simp only [List.foldl_cons, List.foldl_nil, List.flatten_cons, List.flatten_nil, List.cons_append, List.nil_append, List.append_nil] at hw2
  rw [hw2]
  clear hw2
  obtain ⟨A, hA⟩ : ∃ A : Addr, (⟨w1.heap.size + 1 + 1 + 1 + 1 + 1 + 1 + 1, 0, none⟩ : Addr) = A := ⟨_, rfl⟩
  rw [hA] at HC ⊢
  clear hA
  go_loopw [2] (fun v2 wr => ∃ i : Nat, v2 = .int .i64 (i : Int) ∧ i ≤ 13 ∧ Aside0 (Below w2.heap.size w2 wr)) (fun v2 _ => 13 - (intOf v2).toNat)
  case atStart => exact ⟨0, rfl, Nat.zero_le _, ⟨Below.refl _ _⟩⟩
  case round =>
    obtain ⟨i, rfl, hi13, HBR⟩ := hrel
    by_cases hi : i < 13
    · obtain ⟨ad, A0, c0, A1, c1, eA, x0, x1, x2, x3, x4, l0, C0, l1, C1⟩ := at_T25 (Kd.C_below HC.out HBR.out) (i : Int) (by omega) (by omega)
      have eA : A = ad := Option.some.inj eA
      subst eA
      have hmem : rd_T25 bads (i : Int) ∈ bads := by
        unfold rd_T25
        rw [List.getD_eq_getElem?_getD, List.getElem?_eq_getElem (show ((i : Int)).toNat < bads.length by show _ < 13; omega)]
        exact List.getElem_mem _
      obtain ⟨⟨r1, r2, r3, hN⟩, hM, hK⟩ := bad_facts _ hmem
      obtain ⟨x, hx⟩ : ∃ x, rd_T25 bads (i : Int) = x := ⟨_, rfl⟩
      rw [hx] at x0 x1 x2 x3 x4 l0 C0 l1 C1 hN hM hK
      rw [Int.toNat_natCast] at x0 x1 x2 x3 x4
      have CN := Aside0.mk (nthN hN C0 l0 C1 l1)
      have HX := Aside0.mk (And.intro C0 (And.intro C1 (And.intro hM hK)))
      clear hN hM hK C0 C1 hx hmem
      have q1 : decide ((i : Int) < 13) = true := decide_eq_true (by omega)
      have q2 : decide (i < 13) = true := decide_eq_true hi
      go_wp2_with (first
        | (go_at_call 15; refine (class_Count.calls 80 A0 c0 x.f0 A1 c1 x.f1 x.f2 x.f3 x.f4 0 _ (Kd.C_below HX.out.1 HB5.out) l0 (Kd.C_below HX.out.2.1 HB5.out) l1 HX.out.2.2.2).mono ?_; rintro e w6 ⟨rfl, hB⟩; have HB6 := Aside0.mk (HB5.out.trans (hB.mono HB5.out.size)); clear hB)
        | (go_at_call 13; refine (class_May.calls A0 c0 x.f0 A1 c1 x.f1 x.f2 x.f3 x.f4 false _ (Kd.C_below HX.out.1 HB4.out) l0 (Kd.C_below HX.out.2.1 HB4.out) l1 HX.out.2.2.1).mono ?_; rintro e w5 ⟨rfl, hB⟩; have HB5 := Aside0.mk (HB4.out.trans (hB.mono HB4.out.size)); have z0 := cell_later hB y0; have z1 := cell_later hB y1; have z2 := cell_later hB y2; have z3 := cell_later hB y3; have z4 := cell_later hB y4; clear hB)
        | (go_at_call 11; refine CN.out.mono ?_; rintro e w3 ⟨B0, d0, B1, d1, B2, d2, rfl, _, _, _, hB⟩; have hb4 := below_alloc hB (.cells #[.slice B0 r1.length d0, .slice B1 r2.length d1, .slice B2 r3.length d2] 31); have y0 := cell_later hb4 x0; have y1 := cell_later hb4 x1; have y2 := cell_later hb4 x2; have y3 := cell_later hb4 x3; have y4 := cell_later hb4 x4; have HB4 := Aside0.mk hb4; clear hB hb4))
      exact ⟨⟨i + 1, by simp [intOf], by omega, ⟨HBR.out.trans (HB6.out.mono HBR.out.size)⟩⟩, by simp [intOf]; omega⟩
    · have ei : i = 13 := by omega
      subst ei
      go_wp2
      rw [show ((13 : Nat) : Int) = (13 : Int) from rfl]
      have hCW := wants_C wr
      have hb8 := (allocs_below (wobj wr.heap.size) wr).mono (Nat.le_refl _)
      have HB8 := Aside0.mk (HB2.out.trans ((HBR.out.trans (hb8.mono HBR.out.size)).mono HB2.out.size))
      obtain ⟨w8, hw8⟩ : ∃ w8, allocs wr (wobj wr.heap.size) = w8 := ⟨_, rfl⟩
      rw [hw8] at hCW hb8 HB8
      unfold allocs wobj wvals at hw8
      simp only [List.foldl_cons, List.foldl_nil, List.flatten_cons, List.flatten_nil, List.cons_append, List.nil_append, List.append_nil] at hw8
      rw [hw8]
      clear hw8 hb8
      obtain ⟨A6, hA6⟩ : ∃ A : Addr, (⟨wr.heap.size + 1 + 1 + 1 + 1 + 1 + 1 + 1 + 1 + 1 + 1 + 1 + 1 + 1 + 1 + 1 + 1, 0, none⟩ : Addr) = A := ⟨_, rfl⟩
      rw [hA6] at hCW ⊢
      obtain ⟨gB, hgB⟩ : ∃ g : Nat, wr.heap.size + 1 + 1 = g := ⟨_, rfl⟩
      rw [hgB] at hCW ⊢
      obtain ⟨A9, hA9⟩ : ∃ A : Addr, (⟨wr.heap.size, 0, none⟩ : Addr) = A := ⟨_, rfl⟩
      obtain ⟨A10, hA10⟩ : ∃ A : Addr, (⟨wr.heap.size + 1, 0, none⟩ : Addr) = A := ⟨_, rfl⟩
      rw [hA9, hA10] at hCW
      have HCW := Aside0.mk hCW
      clear hA6 hgB hA9 hA10 hCW
      go_loopw [7] (fun v7 ws => ∃ i : Nat, v7 = .int .i64 (i : Int) ∧ i ≤ 4 ∧ Aside0 (Below w8.heap.size w8 ws)) (fun v7 _ => 4 - (intOf v7).toNat)
      case atStart => exact ⟨0, rfl, Nat.zero_le _, ⟨Below.refl _ _⟩⟩
      case round =>
        obtain ⟨i, rfl, hi4, HBS⟩ := hrel
        have hbk := blk_below HCW.out.2.1 HBS.out
        have x0 : wr.cell? ⟨gB, 0, none⟩ = some (.slice (some A9) 1 1) := (blk_cell hbk 0).trans rfl
        have x1 : wr.cell? ⟨gB, 1, none⟩ = some (.slice (some A10) 1 1) := (blk_cell hbk 1).trans rfl
        have x2 : wr.cell? ⟨gB, 2, none⟩ = some (.int .i64 2) := (blk_cell hbk 2).trans rfl
        have x3 : wr.cell? ⟨gB, 3, none⟩ = some (.int .i64 1) := (blk_cell hbk 3).trans rfl
        have x4 : wr.cell? ⟨gB, 4, none⟩ = some (.int .i64 0) := (blk_cell hbk 4).trans rfl
        clear hbk
        have HC0 := Aside0.mk (Kd.C_below HCW.out.2.2.1 HBS.out)
        have HC1 := Aside0.mk (Kd.C_below HCW.out.2.2.2 HBS.out)
        by_cases hi : i < 4
        · obtain ⟨ad, A0, c0, A1, c1, A2, c2, eA, y0, y1, y2, l0, C0, l1, C1, l2, C2⟩ := at_T31 (Kd.C_below HCW.out.1 HBS.out) (i : Int) (by omega) (by omega)
          have eA : A6 = ad := Option.some.inj eA
          subst eA
          have hget : wants[i]? = some (rd_T31 wants (i : Int)) := by
            unfold rd_T31
            rw [Int.toNat_natCast, List.getD_eq_getElem?_getD, List.getElem?_eq_getElem (show i < wants.length by exact hi)]; rfl
          obtain ⟨r1, r2, r3, hN, hS⟩ := want_facts i hi _ hget
          obtain ⟨x, hx⟩ : ∃ x, rd_T31 wants (i : Int) = x := ⟨_, rfl⟩
          rw [hx] at y0 y1 y2 l0 C0 l1 C1 l2 C2 hS
          rw [Int.toNat_natCast] at y0 y1 y2
          have CN : Aside0 (Calls Try.prog 11 #[.agg #[.slice (some A9) 1 1, .slice (some A10) 1 1, .int .i64 2, .int .i64 1, .int .i64 0], .int .i64 (i : Int)] wr fun e w' => ∃ B0 d0 B1 d1 B2 d2, e = .returned (.tuple #[.agg #[.slice B0 r1.length d0, .slice B1 r2.length d1, .slice B2 r3.length d2], .bool true]) ∧ (r1.length ≤ d0 ∧ Kd.C (Kd.slice 5 (Kd.int .u8)) w' B0 r1.length r1) ∧ (r2.length ≤ d1 ∧ Kd.C (Kd.slice 5 (Kd.int .u8)) w' B1 r2.length r2) ∧ (r3.length ≤ d2 ∧ Kd.C Kd.bool w' B2 r3.length r3) ∧ Below wr.heap.size wr w') := ⟨nthN (x := ⟨cT, [0], 2, 1, 0⟩) hN HC0.out (Nat.le_refl _) HC1.out (Nat.le_refl _)⟩
          have HX := Aside0.mk (And.intro C0 (And.intro C1 (And.intro C2 (And.intro hS (And.intro l0 (And.intro l1 l2))))))
          clear hN hS C0 C1 C2 hx hget l0 l1 l2
          have q1 : decide ((i : Int) < 4) = true := decide_eq_true (by omega)
          have q3 : (0 : Int) ≤ (i : Int) := by omega
          have q4 : (i : Int) < 4 := by omega
          have q5 : (i : Int) ≤ 4 := by omega
          have q2 : decide (i < 4) = true := decide_eq_true hi
          go_wp2_with (go_at_call 11; refine CN.out.mono ?_; rintro e w3 ⟨B0, d0, B1, d1, B2, d2, rfl, hE0, hE1, hE2, hB⟩; have HE0 := Aside0.mk hE0; have HE1 := Aside0.mk hE1; have HE2 := Aside0.mk hE2; have HB3 := Aside0.mk hB; clear hB hE0 hE1 hE2)
          have hbk := blk_new w3 (.cells #[.slice B0 r1.length d0, .slice B1 r2.length d1, .slice B2 r3.length d2] 31)
          have hb4 := below_alloc (Below.refl w3.heap.size w3) (.cells #[.slice B0 r1.length d0, .slice B1 r2.length d1, .slice B2 r3.length d2] 31)
          obtain ⟨w4, hw4⟩ : ∃ w4, w3.alloc (.cells #[.slice B0 r1.length d0, .slice B1 r2.length d1, .slice B2 r3.length d2] 31) = w4 := ⟨_, rfl⟩
          rw [hw4] at hbk hb4 ⊢
          have HB4 := Aside0.mk (HB3.out.trans (hb4.mono HB3.out.size))
          have hfact : ∀ W, Below w4.heap.size w4 W → W.cell? ⟨w3.heap.size, 0, none⟩ = some (.slice B0 r1.length d0) ∧ W.cell? ⟨w3.heap.size, 1, none⟩ = some (.slice B1 r2.length d1) ∧ W.cell? ⟨w3.heap.size, 2, none⟩ = some (.slice B2 r3.length d2) ∧ W.cell? (A6.add (i * 3)) = some (.slice A0 x.f0.length c0) ∧ W.cell? ⟨(A6.add (i * 3)).block, (A6.add (i * 3)).off + 1, none⟩ = some (.slice A1 x.f1.length c1) ∧ W.cell? ⟨(A6.add (i * 3)).block, (A6.add (i * 3)).off + 2, none⟩ = some (.slice A2 x.f2.length c2) := fun W hB =>
            ⟨(blk_cell (blk_below hbk hB) 0).trans rfl, (blk_cell (blk_below hbk hB) 1).trans rfl, (blk_cell (blk_below hbk hB) 2).trans rfl, cell_later hB (cell_later HB4.out y0), cell_later hB (cell_later HB4.out y1), cell_later hB (cell_later HB4.out y2)⟩
          have hsame : ∀ W, Below w4.heap.size w4 W → Calls Try.prog 17 #[.agg #[.slice B0 r1.length d0, .slice B1 r2.length d1, .slice B2 r3.length d2], .agg #[.slice A0 x.f0.length c0, .slice A1 x.f1.length c1, .slice A2 x.f2.length c2]] W fun e w' => e = .returned (.bool true) ∧ Below W.heap.size W w' := fun W hB =>
            crossroadsref17_Same.calls 80 B0 d0 r1 B1 d1 r2 B2 d2 r3 A0 c0 x.f0 A1 c1 x.f1 A2 c2 x.f2 true W (Kd.C_below (Kd.C_below HE0.out.2 hb4) hB) HE0.out.1 (Kd.C_below (Kd.C_below HE1.out.2 hb4) hB) HE1.out.1 (Kd.C_below (Kd.C_below HE2.out.2 hb4) hB) HE2.out.1 (Kd.C_below (Kd.C_below HX.out.1 HB4.out) hB) HX.out.2.2.2.2.1 (Kd.C_below (Kd.C_below HX.out.2.1 HB4.out) hB) HX.out.2.2.2.2.2.1 (Kd.C_below (Kd.C_below HX.out.2.2.1 HB4.out) hB) HX.out.2.2.2.2.2.2 HX.out.2.2.2.1
          have HFACT := Aside0.mk hfact
          have HSAME := Aside0.mk hsame
          clear hfact hsame hw4 hbk hb4 x0 x1 x2 x3 x4 y0 y1 y2
          go_region_held3 (fun W => W.cell? ⟨w3.heap.size, 0, none⟩ = some (.slice B0 r1.length d0) ∧ W.cell? ⟨w3.heap.size, 1, none⟩ = some (.slice B1 r2.length d1) ∧ W.cell? ⟨w3.heap.size, 2, none⟩ = some (.slice B2 r3.length d2) ∧ W.cell? (A6.add (i * 3)) = some (.slice A0 x.f0.length c0) ∧ W.cell? ⟨(A6.add (i * 3)).block, (A6.add (i * 3)).off + 1, none⟩ = some (.slice A1 x.f1.length c1) ∧ W.cell? ⟨(A6.add (i * 3)).block, (A6.add (i * 3)).off + 2, none⟩ = some (.slice A2 x.f2.length c2))
            (first
              | exact HFACT.out _ (below_drew (Below.refl _ _))
              | exact HFACT.out _ hB6)
            (first | (go_at_call 17; refine (HSAME.out _ ?hb).mono ?_; (case hb => repeat (first | exact Below.refl _ _ | apply pw_below_drewN | apply below_drew)); rintro e w6 ⟨rfl, hB⟩; have hB6 : Below w4.heap.size w4 w6 := Below.trans (by repeat (first | exact Below.refl _ _ | apply pw_below_drewN | apply below_drew)) hB; have HB6 := Aside0.mk (HB4.out.trans (hB6.mono HB4.out.size)); clear hB))
          all_goals go_wp2_with fail
          all_goals
            go_roundw
            case rel => exact ⟨i + 1, by go_num, by omega, ⟨HBS.out.trans (HB6.out.mono HBS.out.size)⟩⟩
            case measure => simp [intOf]; omega
        · have ei : i = 4 := by omega
          subst ei
          have CN1 : Aside0 (Calls Try.prog 11 #[.agg #[.slice (some A9) 1 1, .slice (some A10) 1 1, .int .i64 2, .int .i64 1, .int .i64 0], .int .i64 770] wr fun e w' => ∃ B0 d0 B1 d1 B2 d2, e = .returned (.tuple #[.agg #[.slice B0 1 d0, .slice B1 1 d1, .slice B2 2 d2], .bool true]) ∧ Kd.C (Kd.slice 5 (Kd.int .u8)) w' B0 1 [[255]] ∧ Kd.C Kd.bool w' B2 2 [true, false] ∧ Below wr.heap.size wr w') := ⟨(nthN (x := ⟨cT, [0], 2, 1, 0⟩) n770 HC0.out (Nat.le_refl _) HC1.out (Nat.le_refl _)).mono fun e w' ⟨B0, d0, B1, d1, B2, d2, he, h0, h1, h2, hB⟩ => ⟨B0, d0, B1, d1, B2, d2, he, h0.2, h2.2, hB⟩⟩
          have CN2 : Aside0 (∀ W, Below wr.heap.size wr W → Calls Try.prog 11 #[.agg #[.slice (some A9) 1 1, .slice (some A10) 1 1, .int .i64 2, .int .i64 1, .int .i64 0], .int .i64 771] W fun e w' => ∃ B0 d0 B1 d1 B2 d2, e = .returned (.tuple #[.agg #[.slice B0 0 d0, .slice B1 0 d1, .slice B2 0 d2], .bool false]) ∧ Below W.heap.size W w') := ⟨fun W hW => (nthN (x := ⟨cT, [0], 2, 1, 0⟩) n771 (Kd.C_below HC0.out hW) (Nat.le_refl _) (Kd.C_below HC1.out hW) (Nat.le_refl _)).mono fun e w' ⟨B0, d0, B1, d1, B2, d2, he, h0, h1, h2, hB⟩ => ⟨B0, d0, B1, d1, B2, d2, he, hB⟩⟩
          have CK1 : Aside0 (∀ W, Below wr.heap.size wr W → Calls Try.prog 15 #[.agg #[.slice (some A9) 1 1, .slice (some A10) 1 1, .int .i64 2, .int .i64 1, .int .i64 0]] W fun e w' => e = .returned (.int .i64 771) ∧ Below W.heap.size W w') := ⟨fun W hW => class_Count.calls 80 (some A9) 1 cT (some A10) 1 [0] 2 1 0 771 W (Kd.C_below HC0.out hW) (Nat.le_refl _) (Kd.C_below HC1.out hW) (Nat.le_refl _) c771⟩
          have CN3 : Aside0 (∀ (W : World) (A : Option Addr), Kd.C k38 W A 2 gT → Calls Try.prog 11 #[.agg #[.slice A 2 2, .slice none 0 0, .int .i64 0, .int .i64 0, .int .i64 0], .int .i64 0] W fun e w' => ∃ B0 d0 B1 d1 B2 d2, e = .returned (.tuple #[.agg #[.slice B0 0 d0, .slice B1 0 d1, .slice B2 0 d2], .bool false]) ∧ Below W.heap.size W w') := ⟨fun W A hC => (nthN (x := ⟨gT, [], 0, 0, 0⟩) ngreat hC (Nat.le_refl _) (Cnil _ _) (Nat.le_refl _)).mono fun e w' ⟨B0, d0, B1, d1, B2, d2, he, h0, h1, h2, hB⟩ => ⟨B0, d0, B1, d1, B2, d2, he, hB⟩⟩
          have CK2 : Aside0 (∀ (W : World) (A : Option Addr), Kd.C k38 W A 2 gT → Calls Try.prog 15 #[.agg #[.slice A 2 2, .slice none 0 0, .int .i64 0, .int .i64 0, .int .i64 0]] W fun e w' => e = .returned (.int .i64 1099511627776) ∧ Below W.heap.size W w') := ⟨fun W A hC => class_Count.calls 80 A 2 gT none 0 [] 0 0 0 _ W hC (Nat.le_refl _) (Cnil _ _) (Nat.le_refl _) cgreat⟩
          have CK3 : Aside0 (∀ (W : World), Calls Try.prog 15 #[.agg #[.slice none 0 0, .slice none 0 0, .int .i64 0, .int .i64 0, .int .i64 0]] W fun e w' => e = .returned (.int .i64 1) ∧ Below W.heap.size W w') := ⟨fun W => class_Count.calls 80 none 0 [] none 0 [] 0 0 0 _ W (Cnil _ _) (Nat.le_refl _) (Cnil _ _) (Nat.le_refl _) cnone⟩
          go_wp2_with (fail)
          go_at_call 11
          refine CN1.out.mono ?_
          rintro e w3 ⟨B0, d0, B1, d1, B2, d2, rfl, hE0, hE2, hB⟩
          have hb4 := below_alloc hB (.cells #[.slice B0 1 d0, .slice B1 1 d1, .slice B2 2 d2] 31)
          have y0 := cell_later hb4 x0
          have y1 := cell_later hb4 x1
          have y2 := cell_later hb4 x2
          have y3 := cell_later hb4 x3
          have y4 := cell_later hb4 x4
          have HB4 := Aside0.mk hb4
          have HE0 := Aside0.mk (Kd.C_below hE0 (below_alloc (Below.refl _ _) (.cells #[.slice B0 1 d0, .slice B1 1 d1, .slice B2 2 d2] 31)))
          have HE2 := Aside0.mk (Kd.C_below hE2 (below_alloc (Below.refl _ _) (.cells #[.slice B0 1 d0, .slice B1 1 d1, .slice B2 2 d2] 31)))
          have HBK := Aside0.mk (blk_new w3 (.cells #[.slice B0 1 d0, .slice B1 1 d1, .slice B2 2 d2] 31))
          clear hB hb4 hE0 hE2
          go_wp2_with fail
          go_at_call 11
          refine (CN2.out _ HB4.out).mono ?_
          rintro e w5 ⟨B3, d3, B4, d4, B5, d5, rfl, hB⟩
          have hb5 := below_alloc hB (.cells #[.slice B3 0 d3, .slice B4 0 d4, .slice B5 0 d5] 31)
          have HB5 := Aside0.mk (HB4.out.trans (hb5.mono HB4.out.size))
          replace HE0 := Aside0.mk (Kd.C_below HE0.out hb5)
          replace HE2 := Aside0.mk (Kd.C_below HE2.out hb5)
          replace HBK := Aside0.mk (blk_below HBK.out hb5)
          clear hB y0 y1 y2 y3 y4 x0 x1 x2 x3 x4
          obtain ⟨w6, hw6⟩ : ∃ w6, w5.alloc (.cells #[.slice B3 0 d3, .slice B4 0 d4, .slice B5 0 d5] 31) = w6 := ⟨_, rfl⟩
          rw [hw6] at hb5 HB5 HE0 HE2 HBK
          go_wp2_with fail
          have hgr := blk_alloc (blk_new w6 (.cells #[.string ⟨#[97]⟩, .bool false, .int .i64 3, .string ⟨#[98]⟩, .bool false, .int .i64 3] 38)) (.cells #[.slice (some ⟨w6.heap.size, 0, none⟩) 2 2, .slice none 0 0, .int .i64 0, .int .i64 0, .int .i64 0] 25)
          have hgx := blk_new (w6.alloc (.cells #[.string ⟨#[97]⟩, .bool false, .int .i64 3, .string ⟨#[98]⟩, .bool false, .int .i64 3] 38)) (.cells #[.slice (some ⟨w6.heap.size, 0, none⟩) 2 2, .slice none 0 0, .int .i64 0, .int .i64 0, .int .i64 0] 25)
          rw [World.size_alloc] at hgx
          have HB7 := Aside0.mk (below_alloc (below_alloc HB5.out (.cells #[.string ⟨#[97]⟩, .bool false, .int .i64 3, .string ⟨#[98]⟩, .bool false, .int .i64 3] 38)) (.cells #[.slice (some ⟨w6.heap.size, 0, none⟩) 2 2, .slice none 0 0, .int .i64 0, .int .i64 0, .int .i64 0] 25))
          go_at_call 11
          refine (CN3.out _ _ (C38 gT rfl (by omega) rfl hgr)).mono ?_
          rintro e w8' ⟨B6, d6, B7, d7, B8, d8, rfl, hB⟩
          have hb8 := below_alloc hB (.cells #[.slice B6 0 d6, .slice B7 0 d7, .slice B8 0 d8] 31)
          have HB9 := Aside0.mk (HB7.out.trans (hb8.mono HB7.out.size))
          have HGR := Aside0.mk (blk_below hgr hb8)
          have HGX := Aside0.mk (blk_below hgx hb8)
          clear hB hgr hgx
          have hb78 := below_alloc (below_alloc (Below.refl w6.heap.size w6) (.cells #[.string ⟨#[97]⟩, .bool false, .int .i64 3, .string ⟨#[98]⟩, .bool false, .int .i64 3] 38)) (.cells #[.slice (some ⟨w6.heap.size, 0, none⟩) 2 2, .slice none 0 0, .int .i64 0, .int .i64 0, .int .i64 0] 25)
          have hb68 := hb78.trans (hb8.mono hb78.size)
          replace HE0 := Aside0.mk (Kd.C_below HE0.out hb68)
          replace HE2 := Aside0.mk (Kd.C_below HE2.out hb68)
          replace HBK := Aside0.mk (blk_below HBK.out hb68)
          have hbk := blk_below HCW.out.2.1 (HBS.out.trans (HB9.out.mono HBS.out.size))
          have c0 := (blk_cell hbk 0).trans rfl
          have c1 := (blk_cell hbk 1).trans rfl
          have c2 := (blk_cell hbk 2).trans rfl
          have c3 := (blk_cell hbk 3).trans rfl
          have c4 := (blk_cell hbk 4).trans rfl
          clear hbk hb78 hb68 hb8 hb5
          go_wp2_with fail
          go_at_call 15
          refine (CK1.out _ HB9.out).mono ?_
          rintro e w10 ⟨rfl, hB⟩
          obtain ⟨ad0, s0, rfl, l0, hK0, h0⟩ := Kd.C_get (Kd.C_below HE0.out hB) [] 0 (by omega) (by omega)
          obtain ⟨A11, k11, rfl, hl11, hc11⟩ : ∃ A c, s0 = [.slice A 1 c] ∧ 1 ≤ c ∧ Kd.C (Kd.int .u8) w10 A 1 [255] := hK0
          have u0 : w10.cell? ad0 = some (.slice A11 1 k11) := by
            have := h0 0 _ rfl
            unfold Addr.add at this
            simpa using this
          obtain ⟨ad1, s1, rfl, l1, hK1, h1⟩ := Kd.C_get hc11 0 0 (by omega) (by omega)
          have hK1 : s1 = [.int .u8 255] := hK1
          subst hK1
          have u1 : w10.cell? ad1 = some (.int .u8 255) := by
            have := h1 0 _ rfl
            unfold Addr.add at this
            simpa using this
          obtain ⟨ad2, s2, rfl, l2, hK2, h2⟩ := Kd.C_get (Kd.C_below HE2.out hB) false 0 (by omega) (by omega)
          have hK2 : s2 = [.bool true] := hK2
          subst hK2
          have u2 : w10.cell? ad2 = some (.bool true) := by
            have := h2 0 _ rfl
            unfold Addr.add at this
            simpa using this
          have hbk := blk_below HBK.out hB
          have t0 : w10.cell? ⟨w3.heap.size, 0, none⟩ = some (.slice (some ad0) 1 d0) := (blk_cell hbk 0).trans rfl
          have t2 : w10.cell? ⟨w3.heap.size, 2, none⟩ = some (.slice (some ad2) 2 d2) := (blk_cell hbk 2).trans rfl
          have hgx := blk_below HGX.out hB
          have v0 : w10.cell? ⟨w6.heap.size + 1, 0, none⟩ = some (.slice (some ⟨w6.heap.size, 0, none⟩) 2 2) := (blk_cell hgx 0).trans rfl
          have v1 : w10.cell? ⟨w6.heap.size + 1, 1, none⟩ = some (.slice none 0 0) := (blk_cell hgx 1).trans rfl
          have v2 : w10.cell? ⟨w6.heap.size + 1, 2, none⟩ = some (.int .i64 0) := (blk_cell hgx 2).trans rfl
          have v3 : w10.cell? ⟨w6.heap.size + 1, 3, none⟩ = some (.int .i64 0) := (blk_cell hgx 3).trans rfl
          have v4 : w10.cell? ⟨w6.heap.size + 1, 4, none⟩ = some (.int .i64 0) := (blk_cell hgx 4).trans rfl
          have HGC := Aside0.mk (C38 (n := 2) gT rfl (by omega) rfl (blk_below HGR.out hB))
          have HB10 := Aside0.mk (HB9.out.trans (hB.mono HB9.out.size))
          clear hB hgx hbk h0 h1 h2 hc11 hl11 l0 l1 l2 c0 c1 c2 c3 c4
          go_wp2_with fail
          go_at_call 15
          refine (CK2.out _ _ HGC.out).mono ?_
          rintro e w11 ⟨rfl, hB⟩
          have HB11 := Aside0.mk (HB10.out.trans (hB.mono HB10.out.size))
          clear hB
          go_wp2_with fail
          go_at_call 15
          refine (CK3.out _).mono ?_
          rintro e w12 ⟨rfl, hB⟩
          have HB12 := Aside0.mk (HB11.out.trans (hB.mono HB11.out.size))
          clear hB
          go_wp2_with fail
          go_ret
          exact ⟨rfl, HB8.out.trans ((HBS.out.trans (HB12.out.mono HBS.out.size)).mono HB8.out.size)⟩
end Go.Proofs.Ytmlnoapfhimgoaa.H
