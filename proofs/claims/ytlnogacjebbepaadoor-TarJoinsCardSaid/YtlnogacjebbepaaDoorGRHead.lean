/- ref22.Head, walked: what it makes is rheadL. -/
import Derived.Test.YtlnogacjebbepaaDoorHeadEq
namespace Go.Proofs.YtlnogacjebbepaaDoor.G
set_option linter.unusedVariables false
set_option linter.unusedSimpArgs false
open Go.RowKit Go.Proofs.YtlnogacjebbepaaDoor.P Go.Proofs.YtlnogacjebbepaaDoor.H Go.Proofs.YtlnogacjebbepaaDoorW.PrintWords Go.Proofs.YtlnogacjebbepaaDoorW.PrintLast Go.Proofs.YtlnogacjebbepaaDoorW.PrintMore
theorem put_at (k : Nat) (H : List Int) (s : ByteArray) (w W : World) (bx : Obj) (K : W.heap[w.heap.size + 1]? = some (.cells (vals H).toArray 5 (0, 0))) (BX : W.heap[w.heap.size]? = some bx) (BE : Below w.heap.size w W) (hH : H.length = 512) (hk : k + s.size ≤ 512) (hk1 : k < 512) :
    Calls Tryd.prog 23 #[.slice (some ⟨w.heap.size + 1, 0, none⟩) 512 512, .int .i64 (k : Int), .string s] W fun e w' => e = .returned (.tuple #[]) ∧ w'.heap[w.heap.size + 1]? = some (.cells (vals (putL H k (nums s))).toArray 5 (0, 0)) ∧ w'.heap[w.heap.size]? = some bx ∧ Below w.heap.size w w' := by
  refine (put_calls (w.heap.size + 1) k H s W K hH hk hk1).mono ?_
  rintro e w' ⟨rfl, rfl⟩
  exact ⟨rfl, setRow_heap _ _ _ _ _ _ K, ((below_setRow (Below.refl (w.heap.size + 1) W) (Nat.le_refl _) _).block w.heap.size (by omega)).trans BX, below_setRow BE (by omega) _⟩
theorem rsum_at (H : List Int) (hl : H.length = 512) : ∀ (g : Nat) (W : World), W.heap[g]? = some (.cells (vals H).toArray 5 (0, 0)) → Calls Tryd.prog 16 #[.slice (some ⟨g, 0, none⟩) 512 512] W fun e w' => e = .returned (.int .i64 (sumV H)) ∧ Drawn0 W w' := fun g W hg => by
  obtain ⟨k, hk⟩ := (rsum_ev H (by omega)).rounds
  have h := crossroadsref22_Sum.calls k (some ⟨g, 0, none⟩) 512 H (sumV H) W (C_block rfl (by omega) hg) (by omega) hk
  rw [hl] at h
  exact h
theorem roct_at (n : Int) (d : Nat) (hd : d ≤ 100) (W : World) : Calls Tryd.prog 24 #[.int .i64 n, .int .i64 (d : Int)] W fun e w' => e = .returned (.string (octS d n ⟨#[]⟩)) ∧ Below W.heap.size W w' := by
  obtain ⟨k, hk⟩ := (octS_ev n d hd).rounds
  exact crossroadsref22_octal.calls k n (d : Int) _ W hk
set_option maxHeartbeats 8000000 in
set_option maxRecDepth 100000 in
theorem rhead_walk (s : ByteArray) (dir : Bool) (A : Option Addr) (n c : Nat) (w : World) (hs : s.size ≤ 99) (hn : n ≤ 9223372036854775807) :
    Calls Tryd.prog 14 #[.agg #[.string s, .bool dir, .slice A n c]] w fun e w' => ∃ g, e = .returned (.slice (some ⟨g, 0, none⟩) 512 512) ∧ w.heap.size ≤ g ∧ w'.heap[g]? = some (.cells (vals (rheadL s dir n)).toArray 5 (0, 0)) ∧ Below w.heap.size w w' := by
  have hmk : ∀ W : World, (Instr.makeSlice 25 (.int .i64 512) (.int .i64 512)).run Tryd.prog W = .ok (.slice (some ⟨W.heap.size, 0, none⟩) 512 512) (W.alloc (.cells (madeCells #[.int .u8 0] 512) 5)) := fun W => run_make_row' (P := Tryd.prog) 25 5 (.int .u8 0) 1 Tryd.underlying25 P.info5 rfl .i64 .i64 512 (by omega) (by omega) W
  have e0 : madeCells #[.int .u8 0] 512 = (vals (List.replicate 512 0)).toArray := by kernel_rfl
  have K0 : Aside0 (((w.alloc (.cells #[.string s, .bool dir, .slice A n c] 37)).alloc (.cells (madeCells #[.int .u8 0] 512) 5)).heap[w.heap.size + 1]? = some (.cells (vals (List.replicate 512 0)).toArray 5 (0, 0))) := ⟨by
    have h := blk_new (w.alloc (.cells #[.string s, .bool dir, .slice A n c] 37)) (.cells (madeCells #[.int .u8 0] 512) 5)
    have e : (w.alloc (.cells #[.string s, .bool dir, .slice A n c] 37)).heap.size = w.heap.size + 1 := by simp
    rw [e, e0] at h
    rw [e0]
    exact h⟩
  have BX0 : Aside0 (((w.alloc (.cells #[.string s, .bool dir, .slice A n c] 37)).alloc (.cells (madeCells #[.int .u8 0] 512) 5)).heap[w.heap.size]? = some (.cells #[.string s, .bool dir, .slice A n c] 37)) := ⟨blk_alloc (blk_new w _) _⟩
  have BE0 : Aside0 (Below w.heap.size w ((w.alloc (.cells #[.string s, .bool dir, .slice A n c] 37)).alloc (.cells (madeCells #[.int .u8 0] 512) 5))) := ⟨below_alloc (below_alloc (Below.refl _ _) _) _⟩
  have l0 : Aside0 ((List.replicate 512 (0 : Int)).length = 512) := ⟨List.length_replicate⟩
  clear e0
  generalize hL0 : List.replicate 512 (0 : Int) = L0 at K0 l0
  have HL0 := Aside0.mk hL0
  clear hL0
  cases dir
  · go_enter Tryd.func14, Tryd.ntmps14
    go_wp2_with fail
    refine (put_at 0 L0 (s) w _ _ K0.out BX0.out BE0.out l0.out (by omega) (by omega)).mono ?_
    rintro e W1 ⟨rfl, k1, bx1, be1⟩
    have K1 := Aside0.mk k1
    have BX1 := Aside0.mk bx1
    have BE1 := Aside0.mk be1
    clear k1 bx1 be1 K0 BX0 BE0
    have l1 : Aside0 ((putL L0 0 (nums (s))).length = 512) := ⟨putL_len' l0.out (by rw [nums_len]; first | omega | (omega))⟩
    generalize hL1 : putL L0 0 (nums (s)) = L1 at K1 l1
    have HL1 := Aside0.mk hL1
    clear hL1
    go_wp2_with fail
    refine (put_at 100 L1 (rmode false) w _ _ K1.out BX1.out BE1.out l1.out (by decide) (by omega)).mono ?_
    rintro e W2 ⟨rfl, k2, bx2, be2⟩
    have K2 := Aside0.mk k2
    have BX2 := Aside0.mk bx2
    have BE2 := Aside0.mk be2
    clear k2 bx2 be2 K1 BX1 BE1
    have l2 : Aside0 ((putL L1 100 (nums (rmode false))).length = 512) := ⟨putL_len' l1.out (by rw [nums_len]; first | omega | (decide))⟩
    generalize hL2 : putL L1 100 (nums (rmode false)) = L2 at K2 l2
    have HL2 := Aside0.mk hL2
    clear hL2
    go_wp2_with fail
    refine (put_at 108 L2 (zs7) w _ _ K2.out BX2.out BE2.out l2.out (by decide) (by omega)).mono ?_
    rintro e W3 ⟨rfl, k3, bx3, be3⟩
    have K3 := Aside0.mk k3
    have BX3 := Aside0.mk bx3
    have BE3 := Aside0.mk be3
    clear k3 bx3 be3 K2 BX2 BE2
    have l3 : Aside0 ((putL L2 108 (nums (zs7))).length = 512) := ⟨putL_len' l2.out (by rw [nums_len]; first | omega | (decide))⟩
    generalize hL3 : putL L2 108 (nums (zs7)) = L3 at K3 l3
    have HL3 := Aside0.mk hL3
    clear hL3
    go_wp2_with fail
    refine (put_at 116 L3 (zs7) w _ _ K3.out BX3.out BE3.out l3.out (by decide) (by omega)).mono ?_
    rintro e W4 ⟨rfl, k4, bx4, be4⟩
    have K4 := Aside0.mk k4
    have BX4 := Aside0.mk bx4
    have BE4 := Aside0.mk be4
    clear k4 bx4 be4 K3 BX3 BE3
    have l4 : Aside0 ((putL L3 116 (nums (zs7))).length = 512) := ⟨putL_len' l3.out (by rw [nums_len]; first | omega | (decide))⟩
    generalize hL4 : putL L3 116 (nums (zs7)) = L4 at K4 l4
    have HL4 := Aside0.mk hL4
    clear hL4
    have z2 := blk_cell BX4.out 2
    simp only [List.getElem?_toArray, List.getElem?_cons_zero, List.getElem?_cons_succ] at z2
    go_wp2_with fail
    refine (roct_at (n : Int) 11 (by omega) _).mono ?_
    rintro e V4 ⟨rfl, hB4⟩
    replace K4 := Aside0.mk (blk_below K4.out hB4)
    replace BX4 := Aside0.mk (blk_below BX4.out hB4)
    replace BE4 := Aside0.mk (below_step BE4.out hB4)
    clear hB4 z2
    have hz5 := Aside0.mk (show (octS 11 (n : Int) ⟨#[]⟩).size = 11 by rw [octS_size]; rfl)
    go_wp2_with fail
    refine (put_at 124 L4 (octS 11 (n : Int) ⟨#[]⟩) w _ _ K4.out BX4.out BE4.out l4.out (by rw [hz5.out]; omega) (by omega)).mono ?_
    rintro e W5 ⟨rfl, k5, bx5, be5⟩
    have K5 := Aside0.mk k5
    have BX5 := Aside0.mk bx5
    have BE5 := Aside0.mk be5
    clear k5 bx5 be5 K4 BX4 BE4
    have l5 : Aside0 ((putL L4 124 (nums (octS 11 (n : Int) ⟨#[]⟩))).length = 512) := ⟨putL_len' l4.out (by rw [nums_len]; first | omega | (rw [hz5.out]; omega))⟩
    generalize hL5 : putL L4 124 (nums (octS 11 (n : Int) ⟨#[]⟩)) = L5 at K5 l5
    have HL5 := Aside0.mk hL5
    clear hL5
    go_wp2_with fail
    refine (put_at 136 L5 (zs11) w _ _ K5.out BX5.out BE5.out l5.out (by decide) (by omega)).mono ?_
    rintro e W6 ⟨rfl, k6, bx6, be6⟩
    have K6 := Aside0.mk k6
    have BX6 := Aside0.mk bx6
    have BE6 := Aside0.mk be6
    clear k6 bx6 be6 K5 BX5 BE5
    have l6 : Aside0 ((putL L5 136 (nums (zs11))).length = 512) := ⟨putL_len' l5.out (by rw [nums_len]; first | omega | (decide))⟩
    generalize hL6 : putL L5 136 (nums (zs11)) = L6 at K6 l6
    have HL6 := Aside0.mk hL6
    clear hL6
    go_wp2_with fail
    refine (put_at 156 L6 (rkind false) w _ _ K6.out BX6.out BE6.out l6.out (by decide) (by omega)).mono ?_
    rintro e W7 ⟨rfl, k7, bx7, be7⟩
    have K7 := Aside0.mk k7
    have BX7 := Aside0.mk bx7
    have BE7 := Aside0.mk be7
    clear k7 bx7 be7 K6 BX6 BE6
    have l7 : Aside0 ((putL L6 156 (nums (rkind false))).length = 512) := ⟨putL_len' l6.out (by rw [nums_len]; first | omega | (decide))⟩
    generalize hL7 : putL L6 156 (nums (rkind false)) = L7 at K7 l7
    have HL7 := Aside0.mk hL7
    clear hL7
    go_wp2_with fail
    refine (put_at 257 L7 (rmagic) w _ _ K7.out BX7.out BE7.out l7.out (by decide) (by omega)).mono ?_
    rintro e W8 ⟨rfl, k8, bx8, be8⟩
    have K8 := Aside0.mk k8
    have BX8 := Aside0.mk bx8
    have BE8 := Aside0.mk be8
    clear k8 bx8 be8 K7 BX7 BE7
    have l8 : Aside0 ((putL L7 257 (nums (rmagic))).length = 512) := ⟨putL_len' l7.out (by rw [nums_len]; first | omega | (decide))⟩
    generalize hL8 : putL L7 257 (nums (rmagic)) = L8 at K8 l8
    have HL8 := Aside0.mk hL8
    clear hL8
    go_wp2_with fail
    refine (rsum_at L8 l8.out _ _ K8.out).mono ?_
    rintro e V8 ⟨rfl, ⟨q8, rfl⟩⟩
    go_wp2_with fail
    refine (roct_at (sumV L8) 6 (by omega) _).mono ?_
    rintro e V9 ⟨rfl, hB9⟩
    replace K8 := Aside0.mk (blk_below (blk_drewN K8.out q8) hB9)
    replace BX8 := Aside0.mk (blk_below (blk_drewN BX8.out q8) hB9)
    replace BE8 := Aside0.mk (below_step (pw_below_drewN BE8.out q8) hB9)
    clear hB9
    have hz9 := Aside0.mk (show (octS 6 (sumV L8) ⟨#[]⟩ ++ rend).size = 8 by rw [app_size, octS_size]; rfl)
    go_wp2_with fail
    refine (put_at 148 L8 (octS 6 (sumV L8) ⟨#[]⟩ ++ rend) w _ _ K8.out BX8.out BE8.out l8.out (by rw [hz9.out]; omega) (by omega)).mono ?_
    rintro e W9 ⟨rfl, k9, bx9, be9⟩
    have K9 := Aside0.mk k9
    have BX9 := Aside0.mk bx9
    have BE9 := Aside0.mk be9
    clear k9 bx9 be9 K8 BX8 BE8
    have l9 : Aside0 ((putL L8 148 (nums (octS 6 (sumV L8) ⟨#[]⟩ ++ rend))).length = 512) := ⟨putL_len' l8.out (by rw [nums_len]; first | omega | (rw [hz9.out]; omega))⟩
    generalize hL9 : putL L8 148 (nums (octS 6 (sumV L8) ⟨#[]⟩ ++ rend)) = L9 at K9 l9
    have HL9 := Aside0.mk hL9
    clear hL9
    go_wp2_with fail
    go_ret
    refine ⟨w.heap.size + 1, rfl, Nat.le_succ _, ?_, BE9.out⟩
    rw [K9.out, ← HL9.out, ← HL8.out, ← HL7.out, ← HL6.out, ← HL5.out, ← HL4.out, ← HL3.out, ← HL2.out, ← HL1.out, ← HL0.out]
    rfl
  · go_enter Tryd.func14, Tryd.ntmps14
    go_wp2_with fail
    refine (put_at 0 L0 (s) w _ _ K0.out BX0.out BE0.out l0.out (by omega) (by omega)).mono ?_
    rintro e W1 ⟨rfl, k1, bx1, be1⟩
    have K1 := Aside0.mk k1
    have BX1 := Aside0.mk bx1
    have BE1 := Aside0.mk be1
    clear k1 bx1 be1 K0 BX0 BE0
    have l1 : Aside0 ((putL L0 0 (nums (s))).length = 512) := ⟨putL_len' l0.out (by rw [nums_len]; first | omega | (omega))⟩
    generalize hL1 : putL L0 0 (nums (s)) = L1 at K1 l1
    have HL1 := Aside0.mk hL1
    clear hL1
    go_wp2_with fail
    refine (put_at 100 L1 (rmode true) w _ _ K1.out BX1.out BE1.out l1.out (by decide) (by omega)).mono ?_
    rintro e W2 ⟨rfl, k2, bx2, be2⟩
    have K2 := Aside0.mk k2
    have BX2 := Aside0.mk bx2
    have BE2 := Aside0.mk be2
    clear k2 bx2 be2 K1 BX1 BE1
    have l2 : Aside0 ((putL L1 100 (nums (rmode true))).length = 512) := ⟨putL_len' l1.out (by rw [nums_len]; first | omega | (decide))⟩
    generalize hL2 : putL L1 100 (nums (rmode true)) = L2 at K2 l2
    have HL2 := Aside0.mk hL2
    clear hL2
    go_wp2_with fail
    refine (put_at 108 L2 (zs7) w _ _ K2.out BX2.out BE2.out l2.out (by decide) (by omega)).mono ?_
    rintro e W3 ⟨rfl, k3, bx3, be3⟩
    have K3 := Aside0.mk k3
    have BX3 := Aside0.mk bx3
    have BE3 := Aside0.mk be3
    clear k3 bx3 be3 K2 BX2 BE2
    have l3 : Aside0 ((putL L2 108 (nums (zs7))).length = 512) := ⟨putL_len' l2.out (by rw [nums_len]; first | omega | (decide))⟩
    generalize hL3 : putL L2 108 (nums (zs7)) = L3 at K3 l3
    have HL3 := Aside0.mk hL3
    clear hL3
    go_wp2_with fail
    refine (put_at 116 L3 (zs7) w _ _ K3.out BX3.out BE3.out l3.out (by decide) (by omega)).mono ?_
    rintro e W4 ⟨rfl, k4, bx4, be4⟩
    have K4 := Aside0.mk k4
    have BX4 := Aside0.mk bx4
    have BE4 := Aside0.mk be4
    clear k4 bx4 be4 K3 BX3 BE3
    have l4 : Aside0 ((putL L3 116 (nums (zs7))).length = 512) := ⟨putL_len' l3.out (by rw [nums_len]; first | omega | (decide))⟩
    generalize hL4 : putL L3 116 (nums (zs7)) = L4 at K4 l4
    have HL4 := Aside0.mk hL4
    clear hL4
    have z2 := blk_cell BX4.out 2
    simp only [List.getElem?_toArray, List.getElem?_cons_zero, List.getElem?_cons_succ] at z2
    go_wp2_with fail
    refine (roct_at (n : Int) 11 (by omega) _).mono ?_
    rintro e V4 ⟨rfl, hB4⟩
    replace K4 := Aside0.mk (blk_below K4.out hB4)
    replace BX4 := Aside0.mk (blk_below BX4.out hB4)
    replace BE4 := Aside0.mk (below_step BE4.out hB4)
    clear hB4 z2
    have hz5 := Aside0.mk (show (octS 11 (n : Int) ⟨#[]⟩).size = 11 by rw [octS_size]; rfl)
    go_wp2_with fail
    refine (put_at 124 L4 (octS 11 (n : Int) ⟨#[]⟩) w _ _ K4.out BX4.out BE4.out l4.out (by rw [hz5.out]; omega) (by omega)).mono ?_
    rintro e W5 ⟨rfl, k5, bx5, be5⟩
    have K5 := Aside0.mk k5
    have BX5 := Aside0.mk bx5
    have BE5 := Aside0.mk be5
    clear k5 bx5 be5 K4 BX4 BE4
    have l5 : Aside0 ((putL L4 124 (nums (octS 11 (n : Int) ⟨#[]⟩))).length = 512) := ⟨putL_len' l4.out (by rw [nums_len]; first | omega | (rw [hz5.out]; omega))⟩
    generalize hL5 : putL L4 124 (nums (octS 11 (n : Int) ⟨#[]⟩)) = L5 at K5 l5
    have HL5 := Aside0.mk hL5
    clear hL5
    go_wp2_with fail
    refine (put_at 136 L5 (zs11) w _ _ K5.out BX5.out BE5.out l5.out (by decide) (by omega)).mono ?_
    rintro e W6 ⟨rfl, k6, bx6, be6⟩
    have K6 := Aside0.mk k6
    have BX6 := Aside0.mk bx6
    have BE6 := Aside0.mk be6
    clear k6 bx6 be6 K5 BX5 BE5
    have l6 : Aside0 ((putL L5 136 (nums (zs11))).length = 512) := ⟨putL_len' l5.out (by rw [nums_len]; first | omega | (decide))⟩
    generalize hL6 : putL L5 136 (nums (zs11)) = L6 at K6 l6
    have HL6 := Aside0.mk hL6
    clear hL6
    go_wp2_with fail
    refine (put_at 156 L6 (rkind true) w _ _ K6.out BX6.out BE6.out l6.out (by decide) (by omega)).mono ?_
    rintro e W7 ⟨rfl, k7, bx7, be7⟩
    have K7 := Aside0.mk k7
    have BX7 := Aside0.mk bx7
    have BE7 := Aside0.mk be7
    clear k7 bx7 be7 K6 BX6 BE6
    have l7 : Aside0 ((putL L6 156 (nums (rkind true))).length = 512) := ⟨putL_len' l6.out (by rw [nums_len]; first | omega | (decide))⟩
    generalize hL7 : putL L6 156 (nums (rkind true)) = L7 at K7 l7
    have HL7 := Aside0.mk hL7
    clear hL7
    go_wp2_with fail
    refine (put_at 257 L7 (rmagic) w _ _ K7.out BX7.out BE7.out l7.out (by decide) (by omega)).mono ?_
    rintro e W8 ⟨rfl, k8, bx8, be8⟩
    have K8 := Aside0.mk k8
    have BX8 := Aside0.mk bx8
    have BE8 := Aside0.mk be8
    clear k8 bx8 be8 K7 BX7 BE7
    have l8 : Aside0 ((putL L7 257 (nums (rmagic))).length = 512) := ⟨putL_len' l7.out (by rw [nums_len]; first | omega | (decide))⟩
    generalize hL8 : putL L7 257 (nums (rmagic)) = L8 at K8 l8
    have HL8 := Aside0.mk hL8
    clear hL8
    go_wp2_with fail
    refine (rsum_at L8 l8.out _ _ K8.out).mono ?_
    rintro e V8 ⟨rfl, ⟨q8, rfl⟩⟩
    go_wp2_with fail
    refine (roct_at (sumV L8) 6 (by omega) _).mono ?_
    rintro e V9 ⟨rfl, hB9⟩
    replace K8 := Aside0.mk (blk_below (blk_drewN K8.out q8) hB9)
    replace BX8 := Aside0.mk (blk_below (blk_drewN BX8.out q8) hB9)
    replace BE8 := Aside0.mk (below_step (pw_below_drewN BE8.out q8) hB9)
    clear hB9
    have hz9 := Aside0.mk (show (octS 6 (sumV L8) ⟨#[]⟩ ++ rend).size = 8 by rw [app_size, octS_size]; rfl)
    go_wp2_with fail
    refine (put_at 148 L8 (octS 6 (sumV L8) ⟨#[]⟩ ++ rend) w _ _ K8.out BX8.out BE8.out l8.out (by rw [hz9.out]; omega) (by omega)).mono ?_
    rintro e W9 ⟨rfl, k9, bx9, be9⟩
    have K9 := Aside0.mk k9
    have BX9 := Aside0.mk bx9
    have BE9 := Aside0.mk be9
    clear k9 bx9 be9 K8 BX8 BE8
    have l9 : Aside0 ((putL L8 148 (nums (octS 6 (sumV L8) ⟨#[]⟩ ++ rend))).length = 512) := ⟨putL_len' l8.out (by rw [nums_len]; first | omega | (rw [hz9.out]; omega))⟩
    generalize hL9 : putL L8 148 (nums (octS 6 (sumV L8) ⟨#[]⟩ ++ rend)) = L9 at K9 l9
    have HL9 := Aside0.mk hL9
    clear hL9
    go_wp2_with fail
    go_ret
    refine ⟨w.heap.size + 1, rfl, Nat.le_succ _, ?_, BE9.out⟩
    rw [K9.out, ← HL9.out, ← HL8.out, ← HL7.out, ← HL6.out, ← HL5.out, ← HL4.out, ← HL3.out, ← HL2.out, ← HL1.out, ← HL0.out]
    rfl
def crossroadsref22_Head.f (a0 : ByteArray) (a1 : Bool) (l2 : List Int) : Option (List Int) := if a0.size ≤ 99 then (if l2.length ≤ 9223372036854775807 then some (headL a0 a1 (l2.length : Int)) else none) else none
theorem crossroadsref22_Head.calls (a0 : ByteArray) (a1 : Bool) (A2 : Option Addr) (c2 : Nat) (l2 : List Int) (r : List Int) (w : World) (hr0 : Kd.C (Kd.int .u8) w A2 l2.length l2) (hc0 : l2.length ≤ c2) (h : crossroadsref22_Head.f a0 a1 l2 = some r) :
    Calls Tryd.prog 14 #[.agg #[.string a0, .bool a1, .slice A2 l2.length c2]] w fun e w' => ∃ v0_ : Value, e = .returned (v0_) ∧ Kd.R (Kd.int .u8) 5 w' w.heap.size (fun _ => True) v0_ r ∧ Below w.heap.size w w' := by
  unfold crossroadsref22_Head.f at h
  by_cases h1 : a0.size ≤ 99
  · rw [if_pos h1] at h
    by_cases h2 : l2.length ≤ 9223372036854775807
    · rw [if_pos h2] at h
      obtain rfl := Option.some.inj h
      refine (rhead_walk a0 a1 A2 l2.length c2 w h1 h2).mono ?_
      rintro e w' ⟨g, rfl, hg, hb, hB⟩
      rw [rheadL_eq a0 a1 _ h1] at hb
      have hl : (headL a0 a1 (l2.length : Int)).length = 512 := headL_len a0 a1 _ h1
      generalize headL a0 a1 (l2.length : Int) = L at hl hb ⊢
      exact ⟨_, rfl, R_block hl hg hb, hB⟩
    · rw [if_neg h2] at h; cases h
  · rw [if_neg h1] at h; cases h
end Go.Proofs.YtlnogacjebbepaaDoor.G
