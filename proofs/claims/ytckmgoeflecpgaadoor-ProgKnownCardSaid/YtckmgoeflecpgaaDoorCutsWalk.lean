/- The law ProgCuts, walked over the contracts of what it calls. -/
import Derived.Test.YtckmgoeflecpgaaDoorApartWalk
namespace Go.Proofs.YtckmgoeflecpgaaDoor.H
set_option linter.unusedVariables false
set_option linter.unusedSimpArgs false
open Go.RowKit Go.Proofs.YtckmgoeflecpgaaDoor.L Go.Proofs.YtckmgoeflecpgaaDoor.I Go.Proofs.YtckmgoeflecpgaaDoor.G Go.Proofs.YtckmgoeflecpgaaDoor.P Go.Proofs.YtckmgoeflecpgaaDoorW.PrintWords Go.Proofs.YtckmgoeflecpgaaDoorW.PrintLast Go.Proofs.YtckmgoeflecpgaaDoorW.PrintMore
/-- prog.Read, its answer told by readV. -/
theorem readC (A : Option Addr) (n c : Nat) (l : List Int) (hl : l.length = n) (hc : n ≤ c) (ok : okB l) (W : World) (hC : Kd.C (Kd.int .u8) W A n l) :
    Calls Tryd.prog 14 #[.slice A n c] W fun e w' => ∃ A0 n0 c0 A1 n1 c1, e = .returned (.tuple #[.agg #[.slice A0 n0 c0, .slice A1 n1 c1], .int .i64 (readV l).2.2]) ∧ Below W.heap.size W w' := by
  refine (read14 A n c l W hl hc hC ok).mono ?_
  rintro e w' ⟨v0, v1, he, h0, h1, hb⟩
  obtain ⟨A0, c0, rfl⟩ := Kd.R_slice h0
  obtain ⟨A1, c1, rfl⟩ := Kd.R_slice h1
  exact ⟨A0, _, c0, A1, _, c1, he, hb⟩
theorem R_lit0 (W : World) (base : Nat) (hb : base ≤ W.heap.size) : Kd.R (Kd.int .u8) 5 (W.alloc (.cells #[] 5)) base (fun _ => True) (.slice (some ⟨W.heap.size, 0, none⟩) 0 0) [] := by
  have hk := blk_new W (.cells #[] 5)
  refine Kd.R_of_own (enc := Value.int .u8) (h1 := fun _ => rfl) ?_ (fun _ _ => trivial)
  exact ⟨rfl, .inr ⟨W.heap.size, 0, #[], rfl, hb, hk, Nat.le_refl _, by unfold maxLen; omega, rfl, rfl⟩⟩
set_option maxHeartbeats 8000000 in
set_option maxRecDepth 100000 in
theorem cuts8 (AL : Option Addr) (nL cL : Nat) (L : List S41) (AN : Option Addr) (nN cN : Nat) (N : List ByteArray) (a1 : Int) (A2 : Option Addr) (n2 c2 : Nat) (M : List Int) (w : World) (hLW : LW w) (h : InP w AL nL cL L AN nN cN N) (ha0 : 0 ≤ a1) (ha1 : a1 < 65536) (hM : M.length = n2) (hc2 : n2 ≤ c2) (hrM : Kd.C (Kd.int .u8) w A2 n2 M) (okM : okB M) :
    Calls Tryd.prog 8 #[.agg #[.slice AL nL cL, .slice AN nN cN], .int .u16 a1, .slice A2 n2 c2] w (Ans w) := by
  obtain ⟨b, _, hS⟩ := h.small
  have HS := Aside0.mk hS
  have HBY := Aside0.mk h.bytes
  have HLW := Aside0.mk hLW
  have HM := Aside0.mk hM
  have HRM := Aside0.mk hrM
  have HOM := Aside0.mk okM
  have hB0 : Below w.heap.size w (w.alloc (.cells #[.slice AL nL cL, .slice AN nN cN] 25)) := below_alloc (Below.refl _ _) _
  have HB0 := Aside0.mk hB0
  have K0 := Aside0.mk (blk_new w (.cells #[.slice AL nL cL, .slice AN nN cN] 25))
  have hcells : ∀ W : World, W.heap[w.heap.size]? = some (.cells #[.slice AL nL cL, .slice AN nN cN] 25 (0, 0)) → W.cell? ⟨w.heap.size, 0, none⟩ = some (.slice AL nL cL) ∧ W.cell? ⟨w.heap.size, 1, none⟩ = some (.slice AN nN cN) := fun W h0 => ⟨(blk_cell h0 0).trans rfl, (blk_cell h0 1).trans rfl⟩
  have HCELLS := Aside0.mk hcells
  clear hS h hLW hM hrM okM hB0 hcells
  by_cases hg : b = false ∨ 100 < n2
  · have hcs : b = false ∨ (b = true ∧ decide (100 < (n2 : Int)) = true ∧ decide (100 < n2) = true) := by
      cases b
      · exact .inl rfl
      · rcases hg with hg | hg
        · cases hg
        · exact .inr ⟨rfl, decide_eq_true (by omega), decide_eq_true hg⟩
    clear hg
    rcases hcs with rfl | ⟨rfl, p1, p2⟩
    all_goals
      go_enter Tryd.func8, Tryd.ntmps8
      go_wp2_with (first
        | (go_at_call 10; refine (awake10 _ (HLW.out.below HB0.out)).mono ?_; rintro e w1 ⟨rfl, hB⟩; have HB1 := Aside0.mk (HB0.out.trans (hB.mono HB0.out.size)); have K01 := Aside0.mk (blk_below K0.out hB); obtain ⟨c0, c1⟩ := HCELLS.out _ K01.out; clear hB)
        | (go_at_call 11; refine (HS.out _ HB1.out).mono ?_; rintro e w2 ⟨rfl, hB⟩; have HB2 := Aside0.mk (HB1.out.trans (hB.mono HB1.out.size)); clear hB))
      go_ret
      exact ⟨rfl, HB2.out⟩
  · have hb : b = true := by cases b; exact absurd (.inl rfl) hg; rfl
    subst hb
    have h100 : n2 ≤ 100 := by omega
    have p1 : decide (100 < (n2 : Int)) = false := decide_eq_false (by omega)
    have p2 : decide (100 < n2) = false := decide_eq_false (by omega)
    clear hg
    by_cases hm : mayV L N = 0
    · have hbv : bytesV L N = (encB L N, 0) := by unfold bytesV; rw [if_pos hm]
      have hlen := enc_len hm
      obtain ⟨m1, m2, m3, _⟩ := may0 hm
      have hsum : ∀ l : List ByteArray, (∀ s ∈ l, s.size ≤ 255) → (l.map ByteArray.size).sum ≤ 255 * l.length := by
        intro l
        induction l with
        | nil => intro _; simp
        | cons s l ih =>
          intro h
          have h1 := h s List.mem_cons_self
          have h2 := ih (fun x hx => h x (List.mem_cons_of_mem _ hx))
          rw [List.map_cons, List.sum_cons, List.length_cons]
          omega
      have hsum := hsum N m3
      obtain ⟨n, hn⟩ : ∃ n, (encB L N).length = n := ⟨_, rfl⟩
      have hn4 : 4 ≤ n := by omega
      have hn5 : n ≤ 10000 := by omega
      obtain ⟨k, hk, hkn⟩ : ∃ k : Nat, a1 % (n : Int) = (k : Int) ∧ k < n := ⟨(a1 % (n : Int)).toNat, by have := Int.emod_nonneg a1 (show (n : Int) ≠ 0 by omega); omega, by have := Int.emod_lt_of_pos a1 (show (0 : Int) < n by omega); have := Int.emod_nonneg a1 (show (n : Int) ≠ 0 by omega); omega⟩
      have hcut := read_cut L N hm k (by omega)
      have hmore : M ≠ [] → readV (encB L N ++ M) = ([], [], 4) := fun hM => read_more _ _ hM (by rw [read_enc L N hm]; simp)
      have hsame := read_enc L N hm
      have okE := okB_enc L N
      rw [hbv] at HBY
      dsimp only at HBY
      rw [hn] at HBY
      clear m1 m2 m3 hsum hlen hm
      generalize encB L N = E at *
      have HE := Aside0.mk hn
      have HOE := Aside0.mk okE
      have HCUT := Aside0.mk hcut
      have HMORE := Aside0.mk hmore
      have HSAME := Aside0.mk hsame
      have hrk : ∀ A c W, k ≤ c → Kd.C (Kd.int .u8) W A k (E.take k) → Calls Tryd.prog 14 #[.slice A k c] W fun e w' => ∃ A0 n0 c0 A1 n1 c1, e = .returned (.tuple #[.agg #[.slice A0 n0 c0, .slice A1 n1 c1], .int .i64 4]) ∧ Below W.heap.size W w' := by
        intro A c W hc hC
        have := readC A k c (E.take k) (by rw [List.length_take]; omega) hc (fun x hx => okE x (List.mem_of_mem_take hx)) W hC
        rw [hcut] at this
        exact this
      obtain ⟨gv, hgv, hgv2⟩ : ∃ gv : Int, (∀ A c W, n + n2 ≤ c → Kd.C (Kd.int .u8) W A (n + n2) (E ++ M) → Calls Tryd.prog 14 #[.slice A (n + n2) c] W fun e w' => ∃ A0 n0 c0 A1 n1 c1, e = .returned (.tuple #[.agg #[.slice A0 n0 c0, .slice A1 n1 c1], .int .i64 gv]) ∧ Below W.heap.size W w') ∧ ((n2 = 0 ∧ gv = 0) ∨ (0 < n2 ∧ gv = 4)) := by
        refine ⟨(readV (E ++ M)).2.2, fun A c W hc hC => readC A (n + n2) c (E ++ M) (by rw [List.length_append, hn, HM.out]) hc (fun x hx => (List.mem_append.1 hx).elim (okE x) (HOM.out x)) W hC, ?_⟩
        by_cases h0 : n2 = 0
        · have hM0 : M = [] := List.length_eq_zero_iff.1 (by rw [HM.out]; exact h0)
          rw [hM0, List.append_nil, hsame]
          exact .inl ⟨h0, rfl⟩
        · rw [hmore (fun h => h0 (by rw [← HM.out, h]; rfl))]
          exact .inr ⟨by omega, rfl⟩
      have HRK := Aside0.mk hrk
      have HRG := Aside0.mk hgv
      clear hrk hgv hbv hcut hmore hsame okE hn
      have HLE1 := Aside0.mk (show (([] : List Int).length + n) * 1 ≤ 140737488355328 by simp; omega)
      have HLE2 := Aside0.mk (show (E.length + n2) * 1 ≤ 140737488355328 by rw [HE.out]; omega)
      have HEM := Aside0.mk (show (E ++ M).length = n + n2 by rw [List.length_append, HE.out, HM.out])
      have hcs : (gv = 0 ∧ ((n2 : Int) == 0) = true ∧ decide (n2 = 0) = true ∧ (n2 == 0) = true) ∨ (gv = 4 ∧ ((n2 : Int) == 0) = false ∧ decide (n2 = 0) = false ∧ (n2 == 0) = false ∧ decide (0 < (n2 : Int)) = true ∧ decide (0 < n2) = true) := by
        rcases hgv2 with ⟨h0, h1⟩ | ⟨h0, h1⟩
        · exact .inl ⟨h1, by rw [h0]; rfl, decide_eq_true h0, by rw [h0]; rfl⟩
        · exact .inr ⟨h1, by rw [beq_eq_false_iff_ne]; omega, decide_eq_false (by omega), by rw [beq_eq_false_iff_ne]; omega, decide_eq_true (by omega), decide_eq_true h0⟩
      clear hgv2
      rcases hcs with ⟨rfl, g1, g2, g3⟩ | ⟨rfl, g1, g2, g3, g4, g5⟩
      all_goals
        go_enter Tryd.func8, Tryd.ntmps8
        go_wp2_with (first
          | (go_at_call 10; refine (awake10 _ (HLW.out.below HB0.out)).mono ?_; rintro e w1 ⟨rfl, hB⟩; have HB1 := Aside0.mk (HB0.out.trans (hB.mono HB0.out.size)); have K01 := Aside0.mk (blk_below K0.out hB); obtain ⟨c0, c1⟩ := HCELLS.out _ K01.out; clear hB)
          | (go_at_call 11; refine (HS.out _ HB1.out).mono ?_; rintro e w2 ⟨rfl, hB⟩; have HB2 := Aside0.mk (HB1.out.trans (hB.mono HB1.out.size)); have K02 := Aside0.mk (blk_below K01.out hB); obtain ⟨d0, d1⟩ := HCELLS.out _ K02.out; clear hB)
          | (go_at_call 12; refine (HBY.out _ HB2.out).mono ?_; rintro e w3 ⟨A3, q3, rfl, hc3, hR3, hB⟩; have HB3 := Aside0.mk (HB2.out.trans (hB.mono HB2.out.size)); have HR3 := Aside0.mk hR3; obtain ⟨S3, F3⟩ := cutT A3 q3 E k n HE.out (by omega) hc3; have HC3 : Aside0 (Kd.C (Kd.int .u8) w3 A3 n E) := ⟨by have h_ := (Kd.R_reads' hR3).2.2; rw [HE.out] at h_; exact h_⟩; have HTK := Aside0.mk (show (E.take k).length = k by rw [List.length_take, HE.out]; omega); clear hB hR3)
          | (go_at_call 14; refine (HRG.out A7 c7 _ HC7L.out HC7.out).mono ?_; rintro e w8 ⟨A8, n8, p8, A9, n9, p9, rfl, hB⟩; have HB8 := Aside0.mk (HB7.out.trans (hB.mono HB7.out.size)); clear hB)
          | (at_builtin; refine Kd.R_append_rows (Kd.int .u8) (Rr := fun x cs => cs = [Value.int .u8 x]) (w0 := w) w.heap.size rfl (.tmp 46) (.tmp 47) 28 5 (.int .u8 0) 1 rfl Tryd.underlying28 info5 rfl (by decide) (by decide) (.slice A6 n c6) E M A2 n2 c2 (fun _ => True) (fun _ => False) rfl rfl HR6.out HCM6.out (fun _ _ h => h) (fun _ hk => hk.elim) (fun _ _ => trivial) HB6.out HB6.out.size HLE2.out ?_; intro v7 w7 T7 B7 G7 _; have e7 := Kd.R_slice T7; rw [HEM.out] at e7; obtain ⟨A7, c7, rfl⟩ := e7; have HB7 := Aside0.mk B7; have HC7 : Aside0 (Kd.C (Kd.int .u8) w7 A7 (n + n2) (E ++ M)) := ⟨by have h_ := (Kd.R_reads' T7).2.2; rw [HEM.out] at h_; exact h_⟩; have HC7L : Aside0 (n + n2 ≤ c7) := ⟨(Kd.R_reads' T7).2.1⟩; clear T7 B7 G7)
          | (at_builtin; refine Kd.R_append_rows (Kd.int .u8) (Rr := fun x cs => cs = [Value.int .u8 x]) (w0 := w) w.heap.size rfl (.tmp 44) (.tmp 45) 28 5 (.int .u8 0) 1 rfl Tryd.underlying28 info5 rfl (by decide) (by decide) (.slice (some ⟨w4.heap.size + 1, 0, none⟩) 0 0) [] E A3 n q3 (fun _ => True) (fun _ => False) rfl rfl HL0.out HCE.out (fun _ _ h => h) (fun _ hk => hk.elim) (fun _ _ => trivial) HBL.out HBL.out.size HLE1.out ?_; intro v6 w6 T6 B6 G6 _; rw [List.nil_append] at T6; have e6 := Kd.R_slice T6; rw [HE.out] at e6; obtain ⟨A6, c6, rfl⟩ := e6; have HB6 := Aside0.mk B6; have HR6 := Aside0.mk T6; have HCM6 := Aside0.mk (Kd.C_below HRM.out B6); clear T6 B6 G6)
          | (go_at_call 14; refine (HRK.out A3 q3 _ (by omega) (F3 _ HC3.out)).mono ?_; rintro e w4 ⟨A4, n4, p4, A5, n5, p5, rfl, hB⟩; have HB4 := Aside0.mk (HB3.out.trans (hB.mono HB3.out.size)); have hl0 : Kd.R (Kd.int .u8) 5 ((w4.alloc (.cells #[.slice A4 n4 p4, .slice A5 n5 p5] 25)).alloc (.cells #[] 5)) w.heap.size (fun _ => True) (.slice (some ⟨w4.heap.size + 1, 0, none⟩) 0 0) [] := (by have h_ := R_lit0 (w4.alloc (.cells #[.slice A4 n4 p4, .slice A5 n5 p5] 25)) w.heap.size (by rw [World.size_alloc]; have := HB4.out.size; omega); rw [World.size_alloc] at h_; exact h_); have HL0 := Aside0.mk hl0; have HBL := Aside0.mk (below_alloc (below_alloc HB4.out (.cells #[.slice A4 n4 p4, .slice A5 n5 p5] 25)) (.cells #[] 5)); have HCE := Aside0.mk (Kd.C_below (Kd.C_below HC3.out hB) (below_alloc (below_alloc (Below.refl _ _) (.cells #[.slice A4 n4 p4, .slice A5 n5 p5] 25)) (.cells #[] 5))); clear hB hl0))
        go_ret
        exact ⟨rfl, below_alloc HB8.out _⟩
    · have hbv : bytesV L N = ([], mayV L N) := by unfold bytesV; rw [if_neg hm]
      rw [hbv] at HBY
      dsimp only at HBY
      have p3 : (mayV L N != 0) = true := bne_iff_ne.2 hm
      generalize mayV L N = mv at *
      clear hbv hm
      go_enter Tryd.func8, Tryd.ntmps8
      go_wp2_with (first
        | (go_at_call 10; refine (awake10 _ (HLW.out.below HB0.out)).mono ?_; rintro e w1 ⟨rfl, hB⟩; have HB1 := Aside0.mk (HB0.out.trans (hB.mono HB0.out.size)); have K01 := Aside0.mk (blk_below K0.out hB); obtain ⟨c0, c1⟩ := HCELLS.out _ K01.out; clear hB)
        | (go_at_call 11; refine (HS.out _ HB1.out).mono ?_; rintro e w2 ⟨rfl, hB⟩; have HB2 := Aside0.mk (HB1.out.trans (hB.mono HB1.out.size)); have K02 := Aside0.mk (blk_below K01.out hB); obtain ⟨d0, d1⟩ := HCELLS.out _ K02.out; clear hB)
        | (go_at_call 12; refine (HBY.out _ HB2.out).mono ?_; rintro e w3 ⟨A3, q3, rfl, hc3, hR3, hB⟩; have HB3 := Aside0.mk (HB2.out.trans (hB.mono HB2.out.size)); clear hB hR3))
      go_ret
      exact ⟨rfl, HB3.out⟩
end Go.Proofs.YtckmgoeflecpgaaDoor.H
