/- ClauseKnown, walked by hand, call by call. -/
import Derived.Test.YtlfghalebkgclaaEvalsWalk
import Derived.Test.YtlfghalebkgclaaGPure
namespace Go.Proofs.Ytlfghalebkgclaa.KnownW
set_option linter.unusedVariables false
set_option linter.unusedSimpArgs false
open Go.RowKit Go.Proofs.Ytlfghalebkgclaa.G Go.Proofs.Ytlfghalebkgclaa.P Go.Proofs.Ytlfghalebkgclaa.Lem Go.Proofs.Ytlfghalebkgclaa.EvalsW Go.Proofs.YtlfghalebkgclaaW.PrintWords Go.Proofs.YtlfghalebkgclaaW.PrintLast Go.Proofs.YtlfghalebkgclaaW.PrintMore
theorem scal_at {α : Type} {enc : α → Value} {h1 : ∀ x, (enc x).oneCell' = true} {W : World} {b e : Nat} {xs : List α} (hl : xs.length ≤ 100) (h : W.heap[b]? = some (.cells (xs.map enc).toArray e (0, 0))) : (Kd.scalar enc h1).C W (some ⟨b, 0, none⟩) xs.length xs := by
  refine ⟨rfl, by omega, fun _ => ⟨_, rfl, fun j p hj => ⟨[enc p], rfl, rfl, fun i u hu => ?_⟩⟩⟩
  cases i with
  | succ i => simp at hu
  | zero =>
    injection hu with hu
    subst hu
    have hjl := (List.getElem?_eq_some_iff.1 hj).1
    have e1 : (Addr.add ⟨b, 0, none⟩ (j * (Kd.scalar enc h1).sz + 0)) = ⟨b, j, none⟩ := by
      show Addr.add ⟨b, 0, none⟩ (j * 1 + 0) = _
      rw [Nat.add_zero, Nat.mul_one]
      unfold Addr.add
      by_cases h0 : j = 0
      · rw [if_pos h0, h0]
      · rw [if_neg h0]
        show (⟨b, 0 + j, none⟩ : Addr) = _
        rw [Nat.zero_add]
    rw [e1]
    unfold World.cell?
    rw [h]
    simp [List.getElem?_map, hj]
theorem ints_at {W : World} {b : Nat} {l : List Int} (hl : l.length ≤ 100) (h : W.heap[b]? = some (.cells (l.map (Value.int .i64)).toArray 3 (0, 0))) : Kd.C (Kd.int .i64) W (some ⟨b, 0, none⟩) l.length l := scal_at hl h
theorem lead_at {W : World} {b : Nat} {l : List Int} (hl : l.length ≤ 100) (h : W.heap[b]? = some (.cells (l.map (Value.int .i64)).toArray 3 (0, 0))) : Leads W (some ⟨b, 0, none⟩, l.length, l.length) l := ⟨rfl, Nat.le_refl _, ints_at hl h⟩
theorem all_nil (W : World) : All W [] [] := ⟨rfl, fun j h l hj => by simp at hj⟩
theorem all_cons {W : World} {h : Hd} {l : List Int} {hs : List Hd} {ls : List (List Int)} (hh : Leads W h l) (ha : All W hs ls) : All W (h :: hs) (l :: ls) := by
  refine ⟨by simp [ha.1], fun j x y hx hy => ?_⟩
  cases j with
  | zero =>
    injection hx with hx
    injection hy with hy
    subst hx; subst hy; exact hh
  | succ j => exact ha.2 j x y hx hy
theorem rows_at {W : World} {b : Nat} {hs : List Hd} {ls : List (List Int)} (hl : hs.length ≤ 100) (h : W.heap[b]? = some (.cells (hs.map hv).toArray 22 (0, 0))) (ha : All W hs ls) : Kd.C (Kd.slice 3 (Kd.int .i64)) W (some ⟨b, 0, none⟩) ls.length ls := by
  have h1 : kh.C W (some ⟨b, 0, none⟩) hs.length hs := scal_at hl h
  rw [ha.1] at h1
  exact reads (Below.refl _ _) h1 ha
theorem row_one {W : World} {b1 b2 : Nat} {l : List Int} (hl : l.length ≤ 100) (h1 : W.heap[b1]? = some (.cells (l.map (Value.int .i64)).toArray 3 (0, 0))) (h2 : W.heap[b2]? = some (.cells #[.slice (some ⟨b1, 0, none⟩) l.length l.length] 22 (0, 0))) : Kd.C (Kd.slice 3 (Kd.int .i64)) W (some ⟨b2, 0, none⟩) 1 [l] :=
  rows_at (hs := [(some ⟨b1, 0, none⟩, l.length, l.length)]) (by simp) h2 (all_cons (lead_at hl h1) (all_nil W))
theorem row_three {W : World} {b1 b2 b3 b4 : Nat} {l1 l2 l3 : List Int} (hl1 : l1.length ≤ 100) (hl2 : l2.length ≤ 100) (hl3 : l3.length ≤ 100) (h1 : W.heap[b1]? = some (.cells (l1.map (Value.int .i64)).toArray 3 (0, 0))) (h2 : W.heap[b2]? = some (.cells (l2.map (Value.int .i64)).toArray 3 (0, 0))) (h3 : W.heap[b3]? = some (.cells (l3.map (Value.int .i64)).toArray 3 (0, 0)))
    (h4 : W.heap[b4]? = some (.cells #[.slice (some ⟨b1, 0, none⟩) l1.length l1.length, .slice (some ⟨b2, 0, none⟩) l2.length l2.length, .slice (some ⟨b3, 0, none⟩) l3.length l3.length] 22 (0, 0))) : Kd.C (Kd.slice 3 (Kd.int .i64)) W (some ⟨b4, 0, none⟩) 3 [l1, l2, l3] :=
  rows_at (hs := [(some ⟨b1, 0, none⟩, l1.length, l1.length), (some ⟨b2, 0, none⟩, l2.length, l2.length), (some ⟨b3, 0, none⟩, l3.length, l3.length)]) (by simp) h4 (all_cons (lead_at hl1 h1) (all_cons (lead_at hl2 h2) (all_cons (lead_at hl3 h3) (all_nil W))))
theorem may_nil {W : World} (n : Int) (r : Bool) (hr : mayF n [] = r) : Calls Try.prog 17 #[.int .i64 n, .slice none 0 0] W fun e w' => e = .returned (.bool r) ∧ Below W.heap.size W w' := clause_May.calls n none 0 [] r W (Kd.C_nil _ _) (Nat.le_refl _) (congrArg some hr)
theorem may_one {W : World} {b1 b2 : Nat} (n : Int) (l : List Int) (r : Bool) (hl : l.length ≤ 100) (h1 : W.heap[b1]? = some (.cells (l.map (Value.int .i64)).toArray 3 (0, 0))) (h2 : W.heap[b2]? = some (.cells #[.slice (some ⟨b1, 0, none⟩) l.length l.length] 22 (0, 0))) (hr : mayF n [l] = r) :
    Calls Try.prog 17 #[.int .i64 n, .slice (some ⟨b2, 0, none⟩) 1 1] W fun e w' => e = .returned (.bool r) ∧ Below W.heap.size W w' := clause_May.calls n _ 1 [l] r W (row_one hl h1 h2) (Nat.le_refl _) (congrArg some hr)
theorem eval_nil {W : World} : Calls Try.prog 15 #[.slice none 0 0, .slice none 0 0] W fun e w' => e = .returned (.bool true) ∧ Below W.heap.size W w' := clause_Eval.calls none 0 [] none 0 [] true W (Kd.C_nil _ _) (Nat.le_refl _) (Kd.C_nil _ _) (Nat.le_refl _) rfl
theorem eval_one' {W : World} {b1 b2 : Nat} (l : List Int) (r : Bool) (hl : l.length ≤ 100) (h1 : W.heap[b1]? = some (.cells (l.map (Value.int .i64)).toArray 3 (0, 0))) (h2 : W.heap[b2]? = some (.cells #[.slice (some ⟨b1, 0, none⟩) l.length l.length] 22 (0, 0))) (hr : clause_Eval.f [l] [] = some r) :
    Calls Try.prog 15 #[.slice (some ⟨b2, 0, none⟩) 1 1, .slice none 0 0] W fun e w' => e = .returned (.bool r) ∧ Below W.heap.size W w' := clause_Eval.calls _ 1 [l] none 0 [] r W (row_one hl h1 h2) (Nat.le_refl _) (Kd.C_nil _ _) (Nat.le_refl _) hr
theorem alloc_size (x : World) (o : Obj) : (x.alloc o).heap.size = x.heap.size + 1 := by
  show (x.heap.push o).size = _
  rw [Array.size_push]
theorem heap_new_ {x : World} {o : Obj} {b : Nat} (h : b = x.heap.size) : (x.alloc o).heap[b]? = some o := by
  subst h
  show (x.heap.push o)[x.heap.size]? = _
  rw [Array.getElem?_push_size]
theorem heap_past {x : World} {o o' : Obj} {b : Nat} (h : x.heap[b]? = some o') : (x.alloc o).heap[b]? = some o' := by
  have hb := (Array.getElem?_eq_some_iff.1 h).1
  show (x.heap.push o)[b]? = _
  rw [Array.getElem?_push_lt hb]
  exact (Array.getElem?_eq_some_iff.1 h).2 ▸ rfl
set_option maxRecDepth 100000 in
set_option maxHeartbeats 4000000 in
theorem known_any (w : World) : Calls Try.prog 7 #[] w fun e w' => e = .returned (.bool true) ∧ Below w.heap.size w w' := by
  obtain ⟨Ka, hA⟩ := awake_is
  have hAA := Aside0.mk (show crossroadslaw4_awake.f Ka = some true from hA Ka (Nat.le_refl _))
  obtain ⟨Ks, hS⟩ := same_is [3, (-7)] [3, (-7)] (by decide)
  rw [decide_eq_true rfl] at hS
  have hSA := Aside0.mk (show crossroadslaw4_same.f Ks [3, (-7)] [3, (-7)] = some true from hS Ks (Nat.le_refl _))
  obtain ⟨Kt, hT⟩ := same_is [1, (-2)] [1, (-2)] (by decide)
  rw [decide_eq_true rfl] at hT
  have hTA := Aside0.mk (show crossroadslaw4_same.f Kt [1, (-2)] [1, (-2)] = some true from hT Kt (Nat.le_refl _))
  have hN1 : Aside0 (clause_Normal.f [5, 0, (-2), (-9223372036854775808), 5, 2] = some ([], true)) := ⟨normal_w (by decide) (by decide) _ (by kernel_rfl)⟩
  have hN2 : Aside0 (clause_Normal.f [(-7), 3, (-9223372036854775808), 0] = some ([3, -7], false)) := ⟨normal_w (by decide) (by decide) _ (by kernel_rfl)⟩
  clear hA hS hT
  go_enter Try.func7, Try.ntmps7
  (try dsimp only [List.append])
  go_wp2_with fail
  refine (crossroadslaw4_awake.calls Ka true _ hAA.out).mono ?_
  rintro e w1 ⟨rfl, hB1⟩
  have HB1 := Aside0.mk hB1
  clear hB1
  go_wp2_with fail
  refine (clause_Normal.calls (some ⟨w1.heap.size, 0, none⟩) 6 [5, 0, (-2), (-9223372036854775808), 5, 2] [] true _ (ints_at (by decide) (heap_new_ rfl)) (Nat.le_refl _) hN1.out).mono ?_
  rintro e w2 ⟨v2, rfl, hR2, hB2⟩
  have HB2 := Aside0.mk ((below_alloc HB1.out _).trans (hB2.mono (below_alloc HB1.out _).size))
  obtain ⟨A2, c2, e2⟩ := Kd.R_slice hR2
  subst e2
  clear hB2 hR2
  go_wp2_with fail
  refine (clause_Normal.calls (some ⟨w2.heap.size, 0, none⟩) 4 [(-7), 3, (-9223372036854775808), 0] [3, -7] false _ (ints_at (by decide) (heap_new_ rfl)) (Nat.le_refl _) hN2.out).mono ?_
  rintro e w3 ⟨v3, rfl, hR3, hB3⟩
  have HB3 := Aside0.mk ((below_alloc HB2.out _).trans (hB3.mono (below_alloc HB2.out _).size))
  obtain ⟨A3, c3, e3, hc3, hC3⟩ := Kd.R_reads hR3
  subst e3
  have HC3 := Aside0.mk hC3
  have Hc3 := Aside0.mk hc3
  clear hB3 hR3 hC3 hc3
  go_wp2_with fail
  refine (crossroadslaw4_same.calls Ks A3 c3 [3, -7] (some ⟨w3.heap.size, 0, none⟩) 2 [3, (-7)] true _ (Kd.C_alloc HC3.out _) Hc3.out (ints_at (by decide) (heap_new_ rfl)) (Nat.le_refl _) hSA.out).mono ?_
  rintro e w4 ⟨rfl, n4, hw4⟩
  have HB4 : Aside0 (Below w.heap.size w w4) := ⟨by rw [hw4]; exact pw_below_drewN (below_alloc HB3.out _) n4⟩
  clear hw4
  go_wp2_with fail
  refine (may_nil 0 true (by kernel_rfl)).mono ?_
  rintro e w5 ⟨rfl, hB5⟩
  have HB5 := Aside0.mk (HB4.out.trans (hB5.mono HB4.out.size))
  clear hB5
  go_wp2_with fail
  refine (may_one (b1 := w5.heap.size) 0 [] true (by decide) (by repeat (first | (refine heap_new_ ?_; first | rfl | (simp only [alloc_size]; done) | (simp only [alloc_size]; omega)) | apply heap_past)) (by repeat (first | (refine heap_new_ ?_; first | rfl | (simp only [alloc_size]; done) | (simp only [alloc_size]; omega)) | apply heap_past)) (by kernel_rfl)).mono ?_
  rintro e w6 ⟨rfl, hB6⟩
  have HB6 := Aside0.mk ((below_alloc (below_alloc HB5.out _) _).trans (hB6.mono (below_alloc (below_alloc HB5.out _) _).size))
  clear hB6
  go_wp2_with fail
  refine (may_nil (-1) false (by kernel_rfl)).mono ?_
  rintro e w7 ⟨rfl, hB7⟩
  have HB7 := Aside0.mk (HB6.out.trans (hB7.mono HB6.out.size))
  clear hB7
  go_wp2_with fail
  refine (may_one (b1 := w7.heap.size) 2 [3] false (by decide) (by repeat (first | (refine heap_new_ ?_; first | rfl | (simp only [alloc_size]; done) | (simp only [alloc_size]; omega)) | apply heap_past)) (by repeat (first | (refine heap_new_ ?_; first | rfl | (simp only [alloc_size]; done) | (simp only [alloc_size]; omega)) | apply heap_past)) (by kernel_rfl)).mono ?_
  rintro e w8 ⟨rfl, hB8⟩
  have HB8 := Aside0.mk ((below_alloc (below_alloc HB7.out _) _).trans (hB8.mono (below_alloc (below_alloc HB7.out _) _).size))
  clear hB8
  go_wp2_with fail
  refine (may_one (b1 := w8.heap.size) 2 [0] false (by decide) (by repeat (first | (refine heap_new_ ?_; first | rfl | (simp only [alloc_size]; done) | (simp only [alloc_size]; omega)) | apply heap_past)) (by repeat (first | (refine heap_new_ ?_; first | rfl | (simp only [alloc_size]; done) | (simp only [alloc_size]; omega)) | apply heap_past)) (by kernel_rfl)).mono ?_
  rintro e w9 ⟨rfl, hB9⟩
  have HB9 := Aside0.mk ((below_alloc (below_alloc HB8.out _) _).trans (hB9.mono (below_alloc (below_alloc HB8.out _) _).size))
  clear hB9
  go_wp2_with fail
  refine (may_one (b1 := w9.heap.size) 2 [(-9223372036854775808)] false (by decide) (by repeat (first | (refine heap_new_ ?_; first | rfl | (simp only [alloc_size]; done) | (simp only [alloc_size]; omega)) | apply heap_past)) (by repeat (first | (refine heap_new_ ?_; first | rfl | (simp only [alloc_size]; done) | (simp only [alloc_size]; omega)) | apply heap_past)) (by kernel_rfl)).mono ?_
  rintro e w10 ⟨rfl, hB10⟩
  have HB10 := Aside0.mk ((below_alloc (below_alloc HB9.out _) _).trans (hB10.mono (below_alloc (below_alloc HB9.out _) _).size))
  clear hB10
  go_wp2_with fail
  refine (eval_nil).mono ?_
  rintro e w11 ⟨rfl, hB11⟩
  have HB11 := Aside0.mk (HB10.out.trans (hB11.mono HB10.out.size))
  clear hB11
  go_wp2_with fail
  refine (eval_one' (b1 := w11.heap.size) [] false (by decide) (by repeat (first | (refine heap_new_ ?_; first | rfl | (simp only [alloc_size]; done) | (simp only [alloc_size]; omega)) | apply heap_past)) (by repeat (first | (refine heap_new_ ?_; first | rfl | (simp only [alloc_size]; done) | (simp only [alloc_size]; omega)) | apply heap_past)) (by kernel_rfl)).mono ?_
  rintro e w12 ⟨rfl, hB12⟩
  have HB12 := Aside0.mk ((below_alloc (below_alloc HB11.out _) _).trans (hB12.mono (below_alloc (below_alloc HB11.out _) _).size))
  clear hB12
  go_wp2_with fail
  refine (eval_one' (b1 := w12.heap.size) [(-9)] true (by decide) (by repeat (first | (refine heap_new_ ?_; first | rfl | (simp only [alloc_size]; done) | (simp only [alloc_size]; omega)) | apply heap_past)) (by repeat (first | (refine heap_new_ ?_; first | rfl | (simp only [alloc_size]; done) | (simp only [alloc_size]; omega)) | apply heap_past)) (by kernel_rfl)).mono ?_
  rintro e w13 ⟨rfl, hB13⟩
  have HB13 := Aside0.mk ((below_alloc (below_alloc HB12.out _) _).trans (hB13.mono (below_alloc (below_alloc HB12.out _) _).size))
  clear hB13
  go_wp2_with fail
  refine (eval_one' (b1 := w13.heap.size) [9, 0, (-9223372036854775808)] false (by decide) (by repeat (first | (refine heap_new_ ?_; first | rfl | (simp only [alloc_size]; done) | (simp only [alloc_size]; omega)) | apply heap_past)) (by repeat (first | (refine heap_new_ ?_; first | rfl | (simp only [alloc_size]; done) | (simp only [alloc_size]; omega)) | apply heap_past)) (by kernel_rfl)).mono ?_
  rintro e w14 ⟨rfl, hB14⟩
  have HB14 := Aside0.mk ((below_alloc (below_alloc HB13.out _) _).trans (hB14.mono (below_alloc (below_alloc HB13.out _) _).size))
  clear hB14
  go_wp2_with fail
  refine (clause_Pure.calls 3 _ 3 [[1, (-2)], [1, (-2), 3], [(-3)]] [1, -2] _ (row_three (b1 := w14.heap.size) (b2 := w14.heap.size + 1) (b3 := w14.heap.size + 2) (l1 := [1, (-2)]) (l2 := [1, (-2), 3]) (l3 := [(-3)]) (by decide) (by decide) (by decide) (by repeat (first | (refine heap_new_ ?_; first | rfl | (simp only [alloc_size]; done) | (simp only [alloc_size]; omega)) | apply heap_past)) (by repeat (first | (refine heap_new_ ?_; first | rfl | (simp only [alloc_size]; done) | (simp only [alloc_size]; omega)) | apply heap_past)) (by repeat (first | (refine heap_new_ ?_; first | rfl | (simp only [alloc_size]; done) | (simp only [alloc_size]; omega)) | apply heap_past)) (by repeat (first | (refine heap_new_ ?_; first | rfl | (simp only [alloc_size]; done) | (simp only [alloc_size]; omega)) | apply heap_past))) (Nat.le_refl _) (by kernel_rfl)).mono ?_
  rintro e w15 ⟨v15, rfl, hR15, hB15⟩
  have HB15 := Aside0.mk ((below_alloc (below_alloc (below_alloc (below_alloc HB14.out _) _) _) _).trans (hB15.mono (below_alloc (below_alloc (below_alloc (below_alloc HB14.out _) _) _) _).size))
  obtain ⟨A15, c15, e15, hc15, hC15⟩ := Kd.R_reads hR15
  subst e15
  have HC15 := Aside0.mk hC15
  have Hc15 := Aside0.mk hc15
  clear hB15 hR15 hC15 hc15
  go_wp2_with fail
  refine (crossroadslaw4_same.calls Kt A15 c15 [1, -2] (some ⟨w15.heap.size, 0, none⟩) 2 [1, (-2)] true _ (Kd.C_alloc HC15.out _) Hc15.out (ints_at (by decide) (heap_new_ rfl)) (Nat.le_refl _) hTA.out).mono ?_
  rintro e w16 ⟨rfl, n16, hw16⟩
  have HB16 : Aside0 (Below w.heap.size w w16) := ⟨by rw [hw16]; exact pw_below_drewN (below_alloc HB15.out _) n16⟩
  clear hw16
  go_wp2_with fail
  refine (clause_Pure.calls 1 _ 1 [[2]] [] _ (row_one (b1 := w16.heap.size) (l := [2]) (by decide) (by repeat (first | (refine heap_new_ ?_; first | rfl | (simp only [alloc_size]; done) | (simp only [alloc_size]; omega)) | apply heap_past)) (by repeat (first | (refine heap_new_ ?_; first | rfl | (simp only [alloc_size]; done) | (simp only [alloc_size]; omega)) | apply heap_past))) (Nat.le_refl _) (by kernel_rfl)).mono ?_
  rintro e w17 ⟨v17, rfl, hR17, hB17⟩
  have HB17 := Aside0.mk ((below_alloc (below_alloc HB16.out _) _).trans (hB17.mono (below_alloc (below_alloc HB16.out _) _).size))
  obtain ⟨A17, c17, e17⟩ := Kd.R_slice hR17
  subst e17
  clear hB17 hR17
  go_wp2
  go_ret
  exact ⟨rfl, HB17.out⟩
end Go.Proofs.Ytlfghalebkgclaa.KnownW
