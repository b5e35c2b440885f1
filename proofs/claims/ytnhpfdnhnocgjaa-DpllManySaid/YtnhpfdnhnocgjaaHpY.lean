/- DpllMany: walked by hand. -/
import Derived.Test.YtnhpfdnhnocgjaaHeads
namespace Go.Proofs.Ytnhpfdnhnocgjaa.S
open Go.RowKit Go.Proofs.Ytnhpfdnhnocgjaa.D Go.Proofs.Ytnhpfdnhnocgjaa.Lem Go.Proofs.YtnhpfdnhnocgjaaW.PrintWords Go.Proofs.YtnhpfdnhnocgjaaW.PrintLast Go.Proofs.YtnhpfdnhnocgjaaW.PrintMore
set_option linter.unusedVariables false
set_option linter.unusedSimpArgs false
attribute [local go_sem] max2_int min2_int max_two min_two
/-- The hidden solution, as it lies. -/
structure SolM (w : World) (g K : Nat) (L : List Bool) (W : World) : Prop where
  below : Below w.heap.size w W
  len : L.length = K
  L : Kd.bool.R 4 W w.heap.size (fun _ => True) (.slice (some ⟨g, 0, none⟩) K K) L
/-- Clauses that hold under it. -/
structure GoodM (K : Nat) (L : List Bool) (G : List (List Int)) (i : Nat) : Prop where
  len : G.length = i
  ok : ∀ d ∈ G, ∀ x ∈ d, okL K x
  sat : satF (bitsOf L) G = true
  rows : ∀ d ∈ G, d.length < 17592186044416
structure ManyM (w : World) (v : Value) (K : Nat) (L : List Bool) (i : Nat) (W : World) : Prop where
  below : Below w.heap.size w W
  F : ∃ G, kRow.R 37 W w.heap.size (fun _ => True) v G ∧ GoodM K L G i
theorem GoodM.snoc {K : Nat} {L : List Bool} {G : List (List Int)} {i : Nat} (h : GoodM K L G i) {d : List Int} {y : Int} (hd : (∀ x ∈ d, okL K x) ∧ d.length ≤ 17592186043904) (hy : lit (bitsOf L) y = true ∧ okL K y) : GoodM K L (G ++ [d ++ [y]]) (i + 1) := by
  have ho : ∀ x ∈ d ++ [y], okL K x := fun x hx => by
    rcases List.mem_append.1 hx with hx | hx
    · exact hd.1 x hx
    · obtain rfl := List.mem_singleton.1 hx
      exact hy.2
  refine ⟨by rw [List.length_append, List.length_singleton, h.len], ok_snoc h.ok ho, ?_, fun e he => ?_⟩
  · rw [satF_append, h.sat, Bool.true_and]
    have : satC (bitsOf L) (d ++ [y]) = true := satC_iff.2 ⟨y, by simp, hy.1⟩
    unfold satF
    simp [this]
  · rcases List.mem_append.1 he with he | he
    · exact h.rows e he
    · obtain rfl := List.mem_singleton.1 he
      rw [List.length_append, List.length_singleton]
      have := hd.2
      omega
theorem two_lits {w w1 : World} {base : Nat} {ok : Nat → Prop} {v : Value} {hs : List Hd} {u : Obj} (hR : kh.R 37 w base ok v hs) (hg : (((w.alloc (.cells #[.int .i64 1] 3)).alloc (.cells #[.int .i64 (-1)] 3)).alloc u).grownBy w1 v.ownBlock) :
    Leads w1 (some ⟨w.heap.size, 0, none⟩, 1, 1) [1] ∧ Leads w1 (some ⟨w.heap.size + 1, 0, none⟩, 1, 1) [-1] := by
  obtain ⟨b1, b2, _⟩ := three w (.cells #[.int .i64 1] 3) (.cells #[.int .i64 (-1)] 3) u
  have hsz : (((w.alloc (.cells #[.int .i64 1] 3)).alloc (.cells #[.int .i64 (-1)] 3)).alloc u).heap.size = w.heap.size + 1 + 1 + 1 := by simp
  have hn : ∀ k, w.heap.size ≤ k → some k ≠ v.ownBlock := fun k hk e => by have := Kd.R_lt hR k e.symm; omega
  have c1 := (hg.block w.heap.size (by rw [hsz]; omega) (hn _ (Nat.le_refl _))).trans b1
  have c2 := (hg.block (w.heap.size + 1) (by rw [hsz]; omega) (hn _ (by omega))).trans b2
  exact ⟨⟨rfl, Nat.le_refl _, C_ints [1] (by decide) c1⟩, ⟨rfl, Nat.le_refl _, C_ints [-1] (by decide) c2⟩⟩
theorem two_heads (w : World) (a b : Hd) : kh.C (((w.alloc (.cells #[.int .i64 1] 3)).alloc (.cells #[.int .i64 (-1)] 3)).alloc (.cells #[hv a, hv b] 37)) (some ⟨w.heap.size + 1 + 1, 0, none⟩) 2 [a, b] := by
  obtain ⟨_, _, b3⟩ := three w (.cells #[.int .i64 1] 3) (.cells #[.int .i64 (-1)] 3) (.cells #[hv a, hv b] 37)
  exact C_cells (d := kh) (L := [a, b]) (V := [hv a, hv b]) rfl (by simp) (fun j x hj => by
    match j, hj with
    | 0, hj => injection hj with hj; subst hj; exact ⟨_, rfl, rfl⟩
    | 1, hj => injection hj with hj; subst hj; exact ⟨_, rfl, rfl⟩
    | j + 2, hj => simp at hj) b3
theorem both_none (s : Nat → Bool) (G : List (List Int)) : satF s (G ++ [[1], [-1]]) = false := by
  rw [satF_append]
  have e : satF s [[1], [-1]] = (((s 1 == true) || false) && (((s 1 == false) || false) && true)) := rfl
  rw [e]
  cases satF s G <;> cases s 1 <;> rfl
theorem u32_wrap (x : Int) : IntKind.u32.wrap x = x % 4294967296 := rfl
set_option maxRecDepth 100000 in
set_option maxHeartbeats 1000000 in
theorem many4 {w : World} {A : Option Addr} {c : Nat} {F : List (List Int)} (h : In w A c F) (hrl : ∀ d ∈ F, d.length ≤ 17592186043904) (hsm : F.length ≤ 5864062014634) (n seed : Int) (hn0 : 0 ≤ n) (hn1 : n ≤ 255) (hs0 : 0 ≤ seed) (hs1 : seed ≤ 4294967295) :
    Calls Try.prog 4 #[.int .u8 n, .int .u32 seed, .slice A F.length c] w fun e w' => e = .returned (.bool true) ∧ Below w.heap.size w w' := by
  have HI := Aside0.mk h
  have HRL := Aside0.mk hrl
  obtain ⟨sb, hsb⟩ := small11 h 600
  have HSM := Aside0.mk hsb
  have c1 : IntKind.i64.wrap n = n := IntWalk.i64_in _ (by omega)
  obtain ⟨K, hK⟩ : ∃ K : Nat, 1 + n % 60 = (K : Int) := ⟨(1 + n % 60).toNat, by omega⟩
  have HKK : Aside0 (1 ≤ K ∧ K ≤ 60) := ⟨by omega⟩
  have HMY := Aside0.mk (fun W (hW : Below w.heap.size w W) => rmay13 (h.below hW) (K : Int))
  obtain ⟨b, hb⟩ : ∃ b, mayB (K : Int) F = b := ⟨_, rfl⟩
  have HM := Aside0.mk hb
  rw [hb] at HMY
  obtain ⟨nF, hnF⟩ : ∃ m, F.length = m := ⟨_, rfl⟩
  have HNF := Aside0.mk hnF
  have HNL : Aside0 (nF ≤ 5864062014634) := ⟨by rw [← hnF]; exact hsm⟩
  rw [hnF] at HSM HMY ⊢
  clear h hsb hb hnF hrl hsm
  cases sb with
  | false =>
    go_enter Try.func4, Try.ntmps4
    go_wp2_with (first
      | (go_at_call 11; refine (HSM.out _ HB1.out).mono ?_; rintro e w2 ⟨rfl, hb2⟩; have HB2 := Aside0.mk (HB1.out.trans (hb2.mono HB1.out.size)); clear hb2)
      | (go_at_call 10; refine (awake10 _).mono ?_; rintro e w1 ⟨rfl, hb1⟩; have HB1 := Aside0.mk hb1; clear hb1))
    go_ret
    exact ⟨rfl, HB2.out⟩
  | true =>
    cases b with
    | false =>
      go_enter Try.func4, Try.ntmps4
      go_wp2_with (first
        | (go_at_call 13; refine (HMY.out _ HB2.out).mono ?_; rintro e w3 ⟨rfl, hb3⟩; have HB3 := Aside0.mk (HB2.out.trans (hb3.mono HB2.out.size)); clear hb3)
        | (go_at_call 11; refine (HSM.out _ HB1.out).mono ?_; rintro e w2 ⟨rfl, hb2⟩; have HB2 := Aside0.mk (HB1.out.trans (hb2.mono HB1.out.size)); clear hb2)
        | (go_at_call 10; refine (awake10 _).mono ?_; rintro e w1 ⟨rfl, hb1⟩; have HB1 := Aside0.mk hb1; clear hb1))
      go_ret
      exact ⟨rfl, HB3.out⟩
    | true =>
      obtain ⟨m0, m1, m2⟩ := (mayB_iff _ F).1 HM.out
      rw [Int.toNat_natCast] at m2
      have HF := Aside0.mk m2
      clear m0 m1 m2
      have hmk : ∀ W : World, (Instr.makeSlice 25 (.int .i64 (K : Int)) (.int .i64 (K : Int))).run Try.prog W = .ok (.slice (some ⟨W.heap.size, 0, none⟩) K K) (W.alloc (.cells (madeCells #[.bool false] K) 4)) := fun W => run_make_row' (P := Try.prog) 25 4 (.bool false) 1 Try.underlying25 P.info4 rfl .i64 .i64 K (by have := HKK.out; omega) (by have := HKK.out; omega) W
      go_enter Try.func4, Try.ntmps4
      go_upto_region 6 with (first
        | (go_at_call 13; refine (HMY.out _ HB2.out).mono ?_; rintro e w3 ⟨rfl, hb3⟩; have HB3 := Aside0.mk (HB2.out.trans (hb3.mono HB2.out.size)); clear hb3)
        | (go_at_call 11; refine (HSM.out _ HB1.out).mono ?_; rintro e w2 ⟨rfl, hb2⟩; have HB2 := Aside0.mk (HB1.out.trans (hb2.mono HB1.out.size)); clear hb2)
        | (go_at_call 10; refine (awake10 _).mono ?_; rintro e w1 ⟨rfl, hb1⟩; have HB1 := Aside0.mk hb1; clear hb1))
      clear HSM HMY HM HB1 HB2
      go_upto_region 8 with fail
      have H0 : Aside0 (∃ L, SolM w w3.heap.size K L (w3.alloc (.cells (madeCells #[.bool false] K) 4))) := ⟨List.replicate K false, below_alloc HB3.out _, List.length_replicate, by
        have hb := blk_new w3 (.cells (madeCells #[.bool false] K) 4)
        rw [made_rep] at hb ⊢
        have hsz := HB3.out.size
        refine Kd.R_of_own ⟨by unfold encs; rw [List.length_map, Nat.mul_one], .inr ⟨w3.heap.size, K, _, by rw [List.length_replicate], hsz, hb, by rw [List.length_replicate]; exact Nat.le_refl _, by have := HKK.out; unfold maxLen; omega, by rw [Nat.mul_one]; simp, ?_⟩⟩ (fun k hk => trivial)
        rw [Nat.mul_one]
        unfold encs
        rw [List.map_replicate, List.length_replicate]
        exact List.take_of_length_le (by simp)⟩
      obtain ⟨w4, hw4⟩ : ∃ w4, w3.alloc (.cells (madeCells #[.bool false] K) 4) = w4 := ⟨_, rfl⟩
      rw [hw4] at H0 ⊢
      obtain ⟨g, hg⟩ : ∃ g, w3.heap.size = g := ⟨_, rfl⟩
      rw [hg] at H0 ⊢
      clear hw4 hg hmk HB3
      go_wp2_with fail
      go_loopg [9, 10] K (fun kq v9 v10 wr => ∃ (x : Int) (i : Nat), v9 = .int .u32 x ∧ v10 = .int .i64 (i : Int) ∧ i + kq = K ∧ 0 ≤ x ∧ x ≤ 4294967295 ∧ Aside0 (∃ L, SolM w g K L wr))
      case atStart => exact ⟨seed, 0, rfl, rfl, by omega, hs0, hs1, H0⟩
      case round =>
        clear H0 hs0 hs1
        obtain ⟨x, i, rfl, rfl, hi, hx0, hx1, HM⟩ := hrel
        by_cases hlt : (i : Int) < (K : Int)
        · obtain ⟨kq, rfl⟩ : ∃ k, gk = k + 1 := ⟨gk - 1, by omega⟩
          have hw : IntKind.i64.wrap ((i : Int) + 1) = ((i + 1 : Nat) : Int) := by have := HKK.out; rw [IntWalk.i64_in _ (by omega)]; rfl
          obtain ⟨x1, hx1'⟩ : ∃ x1, IntKind.u32.wrap (x * 1664525) = x1 := ⟨_, rfl⟩
          obtain ⟨x2, hx2'⟩ : ∃ x2, IntKind.u32.wrap (x1 + 1013904223) = x2 := ⟨_, rfl⟩
          have hb2 : 0 ≤ x2 ∧ x2 ≤ 4294967295 := by rw [← hx2', u32_wrap]; omega
          obtain ⟨L, hL⟩ := HM.out
          have hi0 : (0 : Int) ≤ (i : Int) := by omega
          have y1 := Kd.R_celln false hL.L (i : Int) hi0 hlt
          have HL := Aside0.mk hL
          clear hL
          rw [Int.toNat_natCast] at y1
          obtain ⟨y1, y2⟩ := y1
          go_upto_region 10 with fail
          obtain ⟨bb, hbb⟩ : ∃ b, (Go.bits .and .u32 (x2 / 1048576) 1 == 1) = b := ⟨_, rfl⟩
          rw [hbb]
          have HN : Aside0 (∃ L, SolM w g K L (wr.setCell ⟨g, i, none⟩ (.bool bb))) := ⟨L.set i bb, HL.out.below.setCell (Kd.R_base HL.out.L g rfl) _, by rw [List.length_set]; exact HL.out.len, by have := Kd.R_putn HL.out.L (i : Int) bb; rwa [Int.toNat_natCast] at this⟩
          clear hbb
          go_wp2_with fail
          go_roundg kq
          case measure => omega
          case rel => exact ⟨x2, i + 1, rfl, rfl, by omega, hb2.1, hb2.2, HN⟩
        · obtain rfl : K = i := by omega
          obtain ⟨L, hL⟩ := HM.out
          have HL := Aside0.mk hL
          have HB4 := Aside0.mk hL.below
          have H0 : Aside0 (SolM w g K L wr ∧ ManyM w (.slice none 0 0) K L 0 wr) := ⟨hL, ⟨hL.below, [], Kd.R_nil _ _ _ _ _, rfl, (fun d hd => nomatch hd), rfl, (fun d hd => nomatch hd)⟩⟩
          clear hL HM HB4 HL
          go_wp2_with fail
          go_loopg [9, 11, 12] nF (fun kq v9 v11 v12 wr => ∃ (x : Int) (u11 : Value) (i : Nat), v9 = .int .u32 x ∧ u11 = v11 ∧ v12 = .int .i64 (i : Int) ∧ i + kq = nF ∧ 0 ≤ x ∧ x ≤ 4294967295 ∧ Aside0 (SolM w g K L wr ∧ ManyM w u11 K L i wr))
          case atStart => exact ⟨x, _, 0, rfl, rfl, rfl, by omega, hx0, hx1, H0⟩
          case round =>
            clear H0 hx0 hx1 hi
            obtain ⟨x, v11, i, rfl, rfl, rfl, hi, hx0, hx1, HM⟩ := hrel
            rename World => wz
            by_cases hlt2 : (i : Int) < (nF : Int)
            · obtain ⟨kq, rfl⟩ : ∃ k, gk = k + 1 := ⟨gk - 1, by omega⟩
              have hw : IntKind.i64.wrap ((i : Int) + 1) = ((i + 1 : Nat) : Int) := by have := HNL.out; rw [IntWalk.i64_in _ (by omega)]; rfl
              obtain ⟨x1, hx1'⟩ : ∃ x1, IntKind.u32.wrap (x * 1664525) = x1 := ⟨_, rfl⟩
              obtain ⟨x2, hx2'⟩ : ∃ x2, IntKind.u32.wrap (x1 + 1013904223) = x2 := ⟨_, rfl⟩
              have hb1 : 0 ≤ x2 := by rw [← hx2', u32_wrap]; omega
              have hb2 : x2 ≤ 4294967295 := by rw [← hx2', u32_wrap]; omega
              have e1 : IntKind.i64.wrap (x2 / 256) = x2 / 256 := IntWalk.i64_in _ (by omega)
              have hK0 : (0 : Int) < (K : Int) := by have := HKK.out; omega
              have hKne : (K : Int) ≠ 0 := by omega
              have hr0 : 0 ≤ (x2 / 256) % (K : Int) := Int.emod_nonneg _ hKne
              have hr1 : (x2 / 256) % (K : Int) < (K : Int) := Int.emod_lt_of_pos _ hK0
              obtain ⟨J, hJ⟩ : ∃ J : Nat, (x2 / 256) % (K : Int) = (J : Int) := ⟨((x2 / 256) % (K : Int)).toNat, by omega⟩
              have hJK : (J : Int) < (K : Int) := by omega
              have e2 : IntKind.i64.wrap (J : Int) = J := IntWalk.i64_in _ (by have := HKK.out; omega)
              obtain ⟨V, hV⟩ : ∃ V : Int, 1 + (J : Int) = V := ⟨_, rfl⟩
              have e3 : IntKind.i64.wrap (1 + (J : Int)) = V := by rw [hV]; exact IntWalk.i64_in _ (by have := HKK.out; omega)
              have e4 : IntKind.i64.wrap (V - 1) = (J : Int) := by rw [show V - 1 = (J : Int) by omega]; exact e2
              have e5 : IntKind.i64.wrap (-V) = -V := IntWalk.i64_in _ (by have := HKK.out; omega)
              have e6 : wrap64 (-V) = -V := by have := HKK.out; unfold wrap64; omega
              have hJ0 : (0 : Int) ≤ (J : Int) := by omega
              obtain ⟨y1, _⟩ := Kd.R_celln false HM.out.1.L (J : Int) hJ0 hJK
              rw [Int.toNat_natCast] at y1
              obtain ⟨bl, hbl⟩ : ∃ b, rdOf false L (J : Int) = b := ⟨_, rfl⟩
              rw [hbl] at y1
              have hi0 : (0 : Int) ≤ (i : Int) := by omega
              obtain ⟨ad, A0, c0, rfl, hcell, hle, hKd⟩ := P.at_L1 HI.out.row (i : Int) hi0 (by rw [HNF.out]; omega)
              rw [Int.toNat_natCast] at hcell
              obtain ⟨d, hd⟩ : ∃ d, P.rd_L1 F (i : Int) = d := ⟨_, rfl⟩
              rw [hd] at hcell hle hKd
              have hiF : i < F.length := by rw [HNF.out]; omega
              have hget : F[i]? = some d := by
                rw [← hd]
                unfold P.rd_L1
                rw [Int.toNat_natCast, List.getD_eq_getElem?_getD, List.getElem?_eq_getElem hiF]; rfl
              have hmem : d ∈ F := List.mem_iff_getElem?.2 ⟨i, hget⟩
              have HD : Aside0 ((∀ x ∈ d, okL K x) ∧ d.length ≤ 17592186043904) := ⟨HF.out d hmem, HRL.out d hmem⟩
              have y3 := cell_later HM.out.2.below hcell
              have HKD := Aside0.mk (Kd.C_below hKd HM.out.2.below)
              have HLV : Aside0 (lit (bitsOf L) (if bl = true then V else -V) = true ∧ okL K (if bl = true then V else -V)) := ⟨by
                have h1 : V.natAbs = J + 1 := by omega
                have h2 : bitsOf L (J + 1) = bl := by
                  unfold bitsOf
                  rw [← hbl]
                  unfold rdOf
                  rw [Int.toNat_natCast]; rfl
                cases bl with
                | true =>
                  rw [if_pos rfl]
                  refine ⟨?_, by omega, by omega⟩
                  unfold lit
                  rw [h1, h2, decide_eq_true (show 0 < V by omega)]; rfl
                | false =>
                  rw [if_neg (by decide)]
                  refine ⟨?_, by omega, by omega⟩
                  unfold lit
                  rw [show (-V).natAbs = J + 1 by omega, h2, decide_eq_false (show ¬ 0 < -V by omega)]; rfl⟩
              obtain ⟨nd, hnd⟩ : ∃ m, d.length = m := ⟨_, rfl⟩
              have HND := Aside0.mk hnd
              rw [hnd] at y3 HKD
              obtain ⟨G, hG1, hG2⟩ := HM.out.2.F
              have HG : Aside0 (kRow.R 37 wz w.heap.size (fun _ => True) v11 G ∧ GoodM K L G i) := ⟨hG1, hG2⟩
              have HSL := Aside0.mk HM.out.1
              have HBZ := Aside0.mk HM.out.2.below
              clear hle hKd hcell hget hmem hiF hd hnd hbl hV hr0 hr1 hx0 hx1 hG1 hG2 HM
              cases bl with
              | true =>
                go_wp2_with (first
                  | ((with_reducible refine gate_dst (N := 77) rfl ?_); refine Kd.R_lit (Kd.int .i64) (w0 := wz) wz.heap.size 3 ?hg (N := 77) ?hd (xs := ([] : List Int)) (inner := []) (ok := fun _ => True) (okp := fun _ => True) ?hr ?hp (fun _ hk => hk) trivial (Below.refl _ _) (Nat.le_refl _) (by simp) ?_; (case hd => rfl); (case hg => rfl); (case hr => first | (go_simp; done) | (go_simp; rfl)); (case hp => exact (Reps.none _ _)); intro va wa hRa hBa _ _; have y4 := cell_later hBa y3)
                  | ((with_reducible refine gate_builtin (b := .append) (xs := #[.tmp 77, .tmp 81]) rfl ?_); at_builtin; refine Kd.R_append_rows (Kd.int .i64) (Rr := fun x cs => cs = [Value.int .i64 x]) (w0 := wz) wz.heap.size rfl (.tmp 77) (.tmp 81) 37 3 (.int .i64 0) 8 rfl Try.underlying37 P.info3 rfl (by decide) (by decide) va [] d A0 nd c0 (fun _ => True) (fun _ => False) rfl rfl hRa ?aR (fun _ _ h => h) (fun _ h => h.elim) (fun _ _ => trivial) hBa hBa.size ?aL ?_; (case aR => exact Kd.C_below HKD.out hBa); (case aL => have := HD.out.2; have := HND.out; simp only [List.length_nil]; omega); intro vb wb hRb hBb _ _; rw [List.nil_append] at hRb)
                  | ((with_reducible refine gate_builtin (b := .append) (xs := #[.tmp 82, .tmp 84]) rfl ?_); at_builtin; refine Kd.R_append (Kd.int .i64) (w0 := wz) wz.heap.size rfl (.tmp 82) (.tmp 84) 37 3 (.int .i64 0) 8 rfl Try.underlying37 P.info3 rfl (by decide) (by decide) (W := wb) vb d V [.int .i64 V] (fun _ => True) (fun _ => False) rfl rfl rfl (fun _ hk => hk.elim) (fun _ _ => trivial) hRb hBb hBb.size ?bL ?_; (case bL => have := HD.out.2; omega); intro vc wc hRc hBc _ _; obtain ⟨A9, m9, c9, rfl⟩ := R_sl hRc)
                  | ((with_reducible refine gate_builtin (b := .append) (xs := #[.tmp 76, .tmp 86]) rfl ?_); at_builtin; refine Kd.R_append kRow (w0 := w) w.heap.size rfl (.tmp 76) (.tmp 86) 22 37 (.slice none 0 0) 24 rfl Try.underlying22 info37 rfl (by decide) (by decide) (W := wc) v11 G (d ++ [V]) [.slice A9 m9 c9] (fun _ => True) (fun k => some k ≠ v11.ownBlock) rfl rfl ⟨_, rfl, int_apart (Kd.R_lower hRc HBZ.out.size) (Kd.R_below HG.out.1 hBc)⟩ (fun _ hk => ⟨trivial, hk⟩) (fun _ _ => trivial) (Kd.R_below HG.out.1 hBc) (HBZ.out.trans (hBc.mono HBZ.out.size)) (HBZ.out.trans (hBc.mono HBZ.out.size)).size ?cL ?_; (case cL => have := HG.out.2.len; have := HNL.out; omega); intro v1 w1 T1 B1 G1 _; have HN : Aside0 (SolM w g K L w1 ∧ ManyM w v1 K L (i + 1) w1) := ⟨⟨B1, HSL.out.len, Kd.R_over (Kd.R_below HSL.out.L hBc) (Kd.R_below HG.out.1 hBc) (by decide) G1⟩, ⟨B1, _, T1, HG.out.2.snoc HD.out HLV.out⟩⟩; clear T1 B1 G1))
                go_roundg kq
                case measure => omega
                case rel => exact ⟨x2, v1, i + 1, rfl, rfl, rfl, by omega, hb1, hb2, HN⟩
              | false =>
                go_wp2_with (first
                  | ((with_reducible refine gate_dst (N := 77) rfl ?_); refine Kd.R_lit (Kd.int .i64) (w0 := wz) wz.heap.size 3 ?hg (N := 77) ?hd (xs := ([] : List Int)) (inner := []) (ok := fun _ => True) (okp := fun _ => True) ?hr ?hp (fun _ hk => hk) trivial (Below.refl _ _) (Nat.le_refl _) (by simp) ?_; (case hd => rfl); (case hg => rfl); (case hr => first | (go_simp; done) | (go_simp; rfl)); (case hp => exact (Reps.none _ _)); intro va wa hRa hBa _ _; have y4 := cell_later hBa y3)
                  | ((with_reducible refine gate_builtin (b := .append) (xs := #[.tmp 77, .tmp 81]) rfl ?_); at_builtin; refine Kd.R_append_rows (Kd.int .i64) (Rr := fun x cs => cs = [Value.int .i64 x]) (w0 := wz) wz.heap.size rfl (.tmp 77) (.tmp 81) 37 3 (.int .i64 0) 8 rfl Try.underlying37 P.info3 rfl (by decide) (by decide) va [] d A0 nd c0 (fun _ => True) (fun _ => False) rfl rfl hRa ?aR (fun _ _ h => h) (fun _ h => h.elim) (fun _ _ => trivial) hBa hBa.size ?aL ?_; (case aR => exact Kd.C_below HKD.out hBa); (case aL => have := HD.out.2; have := HND.out; simp only [List.length_nil]; omega); intro vb wb hRb hBb _ _; rw [List.nil_append] at hRb)
                  | ((with_reducible refine gate_builtin (b := .append) (xs := #[.tmp 82, .tmp 84]) rfl ?_); at_builtin; refine Kd.R_append (Kd.int .i64) (w0 := wz) wz.heap.size rfl (.tmp 82) (.tmp 84) 37 3 (.int .i64 0) 8 rfl Try.underlying37 P.info3 rfl (by decide) (by decide) (W := wb) vb d (-V) [.int .i64 (-V)] (fun _ => True) (fun _ => False) rfl rfl rfl (fun _ hk => hk.elim) (fun _ _ => trivial) hRb hBb hBb.size ?bL ?_; (case bL => have := HD.out.2; omega); intro vc wc hRc hBc _ _; obtain ⟨A9, m9, c9, rfl⟩ := R_sl hRc)
                  | ((with_reducible refine gate_builtin (b := .append) (xs := #[.tmp 76, .tmp 86]) rfl ?_); at_builtin; refine Kd.R_append kRow (w0 := w) w.heap.size rfl (.tmp 76) (.tmp 86) 22 37 (.slice none 0 0) 24 rfl Try.underlying22 info37 rfl (by decide) (by decide) (W := wc) v11 G (d ++ [(-V)]) [.slice A9 m9 c9] (fun _ => True) (fun k => some k ≠ v11.ownBlock) rfl rfl ⟨_, rfl, int_apart (Kd.R_lower hRc HBZ.out.size) (Kd.R_below HG.out.1 hBc)⟩ (fun _ hk => ⟨trivial, hk⟩) (fun _ _ => trivial) (Kd.R_below HG.out.1 hBc) (HBZ.out.trans (hBc.mono HBZ.out.size)) (HBZ.out.trans (hBc.mono HBZ.out.size)).size ?cL ?_; (case cL => have := HG.out.2.len; have := HNL.out; omega); intro v1 w1 T1 B1 G1 _; have HN : Aside0 (SolM w g K L w1 ∧ ManyM w v1 K L (i + 1) w1) := ⟨⟨B1, HSL.out.len, Kd.R_over (Kd.R_below HSL.out.L hBc) (Kd.R_below HG.out.1 hBc) (by decide) G1⟩, ⟨B1, _, T1, HG.out.2.snoc HD.out HLV.out⟩⟩; clear T1 B1 G1))
                go_roundg kq
                case measure => omega
                case rel => exact ⟨x2, v1, i + 1, rfl, rfl, rfl, by omega, hb1, hb2, HN⟩
            · obtain rfl : nF = i := by omega
              obtain ⟨G, hG1, hG2⟩ := HM.out.2.F
              obtain ⟨A11, m11, c11, rfl⟩ := R_sl hG1
              have hN65 : K ≤ 65536 := by have := HKK.out; omega
              obtain ⟨rfl, hin⟩ := In.own (N := K) hG1 hN65 hG2.ok (by have := hG2.len; have := HNL.out; omega) hG2.rows
              have HIN := Aside0.mk hin
              have HB4 := Aside0.mk HM.out.2.below
              have HMF : mayB (K : Int) G = true := may_of hN65 hG2.ok
              have hok2 : ∀ d ∈ G ++ [[1], [-1]], ∀ x ∈ d, okL K x := fun d hd => by
                have := HKK.out
                rcases List.mem_append.1 hd with hd | hd
                · exact hG2.ok d hd
                · intro x hx
                  have : x = 1 ∨ x = -1 := by
                    rcases List.mem_cons.1 hd with rfl | hd
                    · exact .inl (List.mem_singleton.1 hx)
                    · obtain rfl := List.mem_singleton.1 hd
                      exact .inr (List.mem_singleton.1 hx)
                  unfold okL
                  omega
              have hrow2 : ∀ d ∈ G ++ [[1], [-1]], d.length < 17592186044416 := fun d hd => by
                rcases List.mem_append.1 hd with hd | hd
                · exact hG2.rows d hd
                · rcases List.mem_cons.1 hd with rfl | hd
                  · decide
                  · obtain rfl := List.mem_singleton.1 hd
                    decide
              have hlen2 : (G ++ [[1], [-1]]).length ≤ 5864062014804 := by have := hG2.len; have := HNL.out; rw [List.length_append]; show G.length + 2 ≤ _; omega
              obtain ⟨hsG, hkG, hallG⟩ := heads hin.row
              obtain ⟨mG, hmG⟩ : ∃ m, G.length = m := ⟨_, rfl⟩
              have HMG : Aside0 (mG ≤ 5864062014634) := ⟨by have := hG2.len; have := HNL.out; omega⟩
              have HHL : Aside0 (hsG.length = mG) := ⟨hallG.1.trans hmG⟩
              have HS1 : Aside0 (Calls Try.prog 12 #[.int .i64 (K : Int), .slice A11 mG c11, .int .i64 1099511627776] wz (SolveP wz (K : Int) G 1099511627776)) := ⟨by
                have := solve12 hin (K : Int) 1099511627776
                rwa [hmG] at this⟩
              have HR1 : Aside0 (∀ r a code, SolveR (K : Int) G 1099511627776 r a code → code = 0 ∧ r = 1 ∧ a.length = K ∧ satF (bitsOf a) G = true) := ⟨fun r a code h => by
                obtain ⟨h0, h | h⟩ := h.full HMF
                · exact ⟨h0, h⟩
                · have := h.2.2 (bitsOf L)
                  rw [hG2.sat] at this
                  cases this⟩
              have HS2 : Aside0 (∀ W A8 m8 c8 h1 h2, kh.R 37 W wz.heap.size (fun _ => True) (.slice A8 m8 c8) (hsG ++ [h1, h2]) → Leads W h1 [1] → Leads W h2 [-1] → Below wz.heap.size wz W → Calls Try.prog 12 #[.int .i64 (K : Int), .slice A8 m8 c8, .int .i64 1099511627776] W (SolveP W (K : Int) (G ++ [[1], [-1]]) 1099511627776)) := ⟨fun W A8 m8 c8 h1 h2 hR hl1 hl2 hW => by
                obtain ⟨rfl, hin2⟩ := In.heads (Below.refl _ _) hR (all_append (all_below hallG hW) (all_append (all_one hl1) (all_one hl2))) hN65 hok2 hlen2 hrow2
                exact solve12 hin2 (K : Int) 1099511627776⟩
              have HR2 : Aside0 (∀ r a code, SolveR (K : Int) (G ++ [[1], [-1]]) 1099511627776 r a code → code = 0 ∧ r = 2) := ⟨fun r a code h => by
                obtain ⟨h0, h | h⟩ := h.full (may_of hN65 hok2)
                · have := h.2.2
                  rw [both_none] at this
                  cases this
                · exact ⟨h0, h.1⟩⟩
              have HEV : Aside0 (∀ (W : World) (v : Value) (a : List Bool) (base : Nat) (ok : Nat → Prop), Below wz.heap.size wz W → Kd.R Kd.bool 4 W base ok v a → a.length = K → satF (bitsOf a) G = true → Calls Try.prog 15 #[.slice A11 mG c11, v] W fun e w' => e = .returned (.bool true) ∧ Below W.heap.size W w') := ⟨fun W v a base ok hb hR hl hs => by
                have := eval15 (HIN.out.below hb) (N := K) hN65 hG2.ok hR (by omega)
                rwa [hs, hmG] at this⟩
              rw [hmG] at hkG ⊢
              have HkG := Aside0.mk hkG
              clear hN65 HMF hok2 hrow2 hlen2 hkG hallG hin hmG hG1 hG2 HM
              go_upto_region 23 with (go_at_call 12; refine HS1.out.mono ?_; rintro e w5 ⟨r1, v1, a1, code1, rfl, hR1, hb5, hS1⟩; have HRR := Aside0.mk hR1; have HB5 := Aside0.mk hb5; obtain ⟨Av, mv, cv, rfl⟩ := R_sl hR1; have HSS1 := Aside0.mk (HR1.out _ _ _ hS1); clear hb5 hS1 hR1)
              obtain ⟨rfl, rfl, hl, hs⟩ := HSS1.out
              have HSA := Aside0.mk (And.intro hl hs)
              clear hl hs HSS1
              go_upto_region 24 with (first
                | (go_at_call 12; refine (HS2.out _ _ _ _ _ _ hRc HLL.out.1 HLL.out.2 hBc).mono ?_; rintro e w6 ⟨r2, v2, a2, code2, rfl, hR2, hb6, hS2⟩; have HB6 := Aside0.mk (hBc.trans (hb6.mono hBc.size)); have HRS := Aside0.mk (Kd.R_below HRR.out (hB5c.trans (hb6.mono hB5c.size))); obtain ⟨Av2, mv2, cv2, rfl⟩ := R_sl hR2; have HSS2 := Aside0.mk (HR2.out _ _ _ hS2); clear hb6 hS2 hR2)
                | ((with_reducible refine gate_dst (N := 97) rfl ?_); refine Kd.R_lit kh (w0 := w5) w5.heap.size 37 ?hg (N := 97) ?hd (xs := ([] : List Hd)) (inner := []) (ok := fun _ => True) (okp := fun _ => True) ?hr ?hp (fun _ hk => hk) trivial (Below.refl _ _) (Nat.le_refl _) (by simp) ?_; (case hd => rfl); (case hg => rfl); (case hr => first | (go_simp; done) | (go_simp; rfl)); (case hp => exact (Reps.none _ _)); intro va wa hRa hBa _ _)
                | ((with_reducible refine gate_builtin (b := .append) (xs := #[.tmp 97, .tmp 98]) rfl ?_); at_builtin; refine Kd.R_append_rows kh (Rr := fun x cs => cs = [hv x]) (w0 := w5) w5.heap.size rfl (.tmp 97) (.tmp 98) 22 37 (.slice none 0 0) 24 rfl Try.underlying22 info37 rfl (by decide) (by decide) va [] hsG A11 mG c11 (fun _ => True) (fun _ => False) rfl rfl hRa ?aR (fun _ _ h => h) (fun _ h => h.elim) (fun _ _ => trivial) hBa hBa.size ?aL ?_; (case aR => exact Kd.C_below HkG.out (HB5.out.trans (hBa.mono HB5.out.size))); (case aL => have := HMG.out; simp only [List.length_nil]; omega); intro vb wb hRb hBb _ _; rw [List.nil_append] at hRb)
                | ((with_reducible refine gate_builtin (b := .append) (xs := #[.tmp 99, .tmp 102]) rfl ?_); at_builtin; refine Kd.R_append_rows kh (Rr := fun x cs => cs = [hv x]) (w0 := w5) w5.heap.size rfl (.tmp 99) (.tmp 102) 22 37 (.slice none 0 0) 24 rfl Try.underlying22 info37 rfl (by decide) (by decide) (W := ((wb.alloc (.cells #[.int .i64 1] 3)).alloc (.cells #[.int .i64 (-1)] 3)).alloc (.cells #[hv (some ⟨wb.heap.size, 0, none⟩, 1, 1), hv (some ⟨wb.heap.size + 1, 0, none⟩, 1, 1)] 37)) vb hsG [(some ⟨wb.heap.size, 0, none⟩, 1, 1), (some ⟨wb.heap.size + 1, 0, none⟩, 1, 1)] (some ⟨wb.heap.size + 1 + 1, 0, none⟩) 2 2 (fun _ => True) (fun _ => False) rfl rfl (Kd.R_alloc (Kd.R_alloc (Kd.R_alloc hRb _) _) _) (two_heads _ _ _) (fun _ _ h => h) (fun _ h => h.elim) (fun _ _ => trivial) (below_alloc (below_alloc (below_alloc hBb _) _) _) (below_alloc (below_alloc (below_alloc hBb _) _) _).size ?bL ?_; (case bL => have := HMG.out; have := HHL.out; omega); intro vc wc hRc0 hB5c hGc _; have HLL := Aside0.mk (two_lits hRb hGc); have hBc := HB5.out.trans (hB5c.mono HB5.out.size); have hRc := Kd.R_lower hRc0 HB5.out.size; obtain ⟨A8, m8, c8, rfl⟩ := R_sl hRc))
              obtain ⟨rfl, rfl⟩ := HSS2.out
              have HE := Aside0.mk (HEV.out _ _ a1 _ _ HB6.out HRS.out HSA.out.1 HSA.out.2)
              clear HSS2 HEV HSA
              go_wp2_with (go_at_call 15; refine HE.out.mono ?_; rintro e w8 ⟨rfl, hb8⟩; have HB8 := Aside0.mk hb8; clear hb8)
              go_ret
              exact ⟨rfl, HB4.out.trans ((HB6.out.trans (HB8.out.mono HB6.out.size)).mono HB4.out.size)⟩
end Go.Proofs.Ytnhpfdnhnocgjaa.S
