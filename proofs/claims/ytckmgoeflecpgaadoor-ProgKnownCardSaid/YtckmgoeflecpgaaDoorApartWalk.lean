/- The law ProgApart, walked over the contracts of what it calls. -/
import Derived.Test.YtckmgoeflecpgaaDoorProgS
namespace Go.Proofs.YtckmgoeflecpgaaDoor.H
set_option linter.unusedVariables false
set_option linter.unusedSimpArgs false
open Go.RowKit Go.Proofs.YtckmgoeflecpgaaDoor.L Go.Proofs.YtckmgoeflecpgaaDoor.I Go.Proofs.YtckmgoeflecpgaaDoor.G Go.Proofs.YtckmgoeflecpgaaDoor.P Go.Proofs.YtckmgoeflecpgaaDoorW.PrintWords Go.Proofs.YtckmgoeflecpgaaDoorW.PrintLast Go.Proofs.YtckmgoeflecpgaaDoorW.PrintMore
/-- A program that came in: its rows are read in every later world. -/
structure InP (w : World) (AL : Option Addr) (nL cL : Nat) (L : List S41) (AN : Option Addr) (nN cN : Nat) (N : List ByteArray) : Prop where
  lenL : L.length = nL
  lenN : N.length = nN
  capL : nL ≤ cL
  capN : nN ≤ cN
  rowL : Kd.C k41 w AL nL L
  rowN : Kd.C Kd.string w AN nN N
  smallL : nL ≤ 9223372036854775806
  smallN : nN ≤ 9223372036854775806
theorem InP.small {w : World} {AL : Option Addr} {nL cL : Nat} {L : List S41} {AN : Option Addr} {nN cN : Nat} {N : List ByteArray} (h : InP w AL nL cL L AN nN cN N) :
    ∃ b, (b = true → L.length ≤ 500 ∧ N.length ≤ 100) ∧ ∀ W, Below w.heap.size w W → Calls Tryd.prog 11 #[.agg #[.slice AL nL cL, .slice AN nN cN]] W fun e w' => e = .returned (.bool b) ∧ Below W.heap.size W w' := by
  obtain ⟨h1, h2, h3, h4, h5, h6, h7, h8⟩ := h
  subst h1
  subst h2
  obtain ⟨b, hb, hb2⟩ := small_ev L N h8
  obtain ⟨k, hk⟩ := hb.rounds
  exact ⟨b, hb2, fun W hB => crossroadslaw10_Small.calls k AL cL L AN cN N b W (Kd.C_below h5 hB) h3 (Kd.C_below h6 hB) h4 hk⟩
theorem InP.bytes {w : World} {AL : Option Addr} {nL cL : Nat} {L : List S41} {AN : Option Addr} {nN cN : Nat} {N : List ByteArray} (h : InP w AL nL cL L AN nN cN N) :
    ∀ W, Below w.heap.size w W → Calls Tryd.prog 12 #[.agg #[.slice AL nL cL, .slice AN nN cN]] W fun e w' => ∃ A c, e = .returned (.tuple #[.slice A (bytesV L N).1.length c, .int .i64 (bytesV L N).2]) ∧ (bytesV L N).1.length ≤ c ∧ Kd.R (Kd.int .u8) 5 w' W.heap.size (fun _ => True) (.slice A (bytesV L N).1.length c) (bytesV L N).1 ∧ Below W.heap.size W w' := by
  obtain ⟨h1, h2, h3, h4, h5, h6, h7, h8⟩ := h
  subst h1
  subst h2
  obtain ⟨k, hk⟩ := (bytes_ev L N).rounds
  intro W hB
  refine (prog_Bytes.calls k AL cL L AN cN N (bytesV L N).1 (bytesV L N).2 W (Kd.C_below h5 hB) h3 (Kd.C_below h6 hB) h4 hk).mono ?_
  rintro e w' ⟨v, rfl, hR, hB'⟩
  obtain ⟨A, c, rfl, hc, _⟩ := Kd.R_reads hR
  exact ⟨A, c, rfl, hc, hR, hB'⟩
def Ans (w : World) (e : Ending) (w' : World) : Prop := e = .returned (.bool true) ∧ Below w.heap.size w w'
theorem conv_in {W W' : World} {A : Option Addr} {n c : Nat} {l : List Int} (hC : Kd.C (Kd.int .u8) W A n l) (hB : Below W.heap.size W W') : (convert 28 9 (.slice A n c)).run Tryd.prog W' = .ok (.string (strOfNums l)) W' :=
  Kd.C_string (P := Tryd.prog) Tryd.underlying28 Tryd.underlying5 Tryd.underlying9 (Kd.C_below hC hB)
set_option maxHeartbeats 8000000 in
set_option maxRecDepth 100000 in
theorem apart7 (AL : Option Addr) (nL cL : Nat) (L : List S41) (AN : Option Addr) (nN cN : Nat) (N : List ByteArray) (AL' : Option Addr) (nL' cL' : Nat) (L' : List S41) (AN' : Option Addr) (nN' cN' : Nat) (N' : List ByteArray) (w : World) (hLW : LW w) (h : InP w AL nL cL L AN nN cN N) (h' : InP w AL' nL' cL' L' AN' nN' cN' N') :
    Calls Tryd.prog 7 #[.agg #[.slice AL nL cL, .slice AN nN cN], .agg #[.slice AL' nL' cL', .slice AN' nN' cN']] w (Ans w) := by
  obtain ⟨b, _, hS⟩ := h.small
  obtain ⟨b', _, hS'⟩ := h'.small
  have HS := Aside0.mk hS
  have HS' := Aside0.mk hS'
  have HBY := Aside0.mk h.bytes
  have HBY' := Aside0.mk h'.bytes
  have HLW := Aside0.mk hLW
  obtain ⟨q, hq, hq2⟩ := same_ev L N L' N' (by have := h.lenN; have := h.smallN; omega) (by have := h.lenL; have := h.smallL; omega)
  have hSame : ∀ W, Below w.heap.size w W → Calls Tryd.prog 15 #[.agg #[.slice AL nL cL, .slice AN nN cN], .agg #[.slice AL' nL' cL', .slice AN' nN' cN']] W fun e w' => e = .returned (.bool q) ∧ Below W.heap.size W w' := by
    obtain ⟨k, hk⟩ := hq.rounds
    obtain ⟨g1, g2, g3, g4, g5, g6, g7, g8⟩ := h
    subst g1
    subst g2
    obtain ⟨f1, f2, f3, f4, f5, f6, f7, f8⟩ := h'
    subst f1
    subst f2
    exact fun W hB => crossroadslaw10_Same.calls k AL cL L AN cN N AL' cL' L' AN' cN' N' q W (Kd.C_below g5 hB) g3 (Kd.C_below g6 hB) g4 (Kd.C_below f5 hB) f3 (Kd.C_below f6 hB) f4 hk
  have HSAME := Aside0.mk hSame
  have heq : mayV L N = 0 → mayV L' N' = 0 → ((strOfNums (bytesV L N).1).toList == (strOfNums (bytesV L' N').1).toList) = q := by
    intro m1 m2
    have e1 : (bytesV L N).1 = encB L N := by unfold bytesV; rw [if_pos m1]
    have e2 : (bytesV L' N').1 = encB L' N' := by unfold bytesV; rw [if_pos m2]
    rw [e1, e2, Bool.eq_iff_iff, beq_iff_eq, hq2]
    constructor
    · intro h
      have h3 := bytesOf_inj' (okB_enc L N) (okB_enc L' N') h
      have a := read_enc L N m1
      rw [h3, read_enc L' N' m2] at a
      simp only [Prod.mk.injEq] at a
      exact ⟨a.1.symm, a.2.1.symm⟩
    · rintro ⟨rfl, rfl⟩; rfl
  have hz : (bytesV L N).2 = mayV L N := by unfold bytesV; split; exact (by assumption : mayV L N = 0).symm; rfl
  have hz' : (bytesV L' N').2 = mayV L' N' := by unfold bytesV; split; exact (by assumption : mayV L' N' = 0).symm; rfl
  rw [← hz, ← hz'] at heq
  generalize bytesV L N = r at *
  generalize bytesV L' N' = r' at *
  obtain ⟨B, e1⟩ := r
  obtain ⟨B', e2⟩ := r'
  dsimp only at *
  clear hz hz' hq hq2 hS hS' hSame h h' hLW
  have HEQ := Aside0.mk heq
  clear heq
  obtain ⟨b1, hb1⟩ : ∃ x, x = Obj.cells #[.slice AL nL cL, .slice AN nN cN] 25 := ⟨_, rfl⟩
  have hB0 : Below w.heap.size w ((w.alloc (.cells #[.slice AL nL cL, .slice AN nN cN] 25)).alloc (.cells #[.slice AL' nL' cL', .slice AN' nN' cN'] 25)) := below_alloc (below_alloc (Below.refl _ _) _) _
  have k0 : ((w.alloc (.cells #[.slice AL nL cL, .slice AN nN cN] 25)).alloc (.cells #[.slice AL' nL' cL', .slice AN' nN' cN'] 25)).heap[w.heap.size]? = some (.cells #[.slice AL nL cL, .slice AN nN cN] 25 (0, 0)) := blk_alloc (blk_new w _) _
  have k1 : ((w.alloc (.cells #[.slice AL nL cL, .slice AN nN cN] 25)).alloc (.cells #[.slice AL' nL' cL', .slice AN' nN' cN'] 25)).heap[w.heap.size + 1]? = some (.cells #[.slice AL' nL' cL', .slice AN' nN' cN'] 25 (0, 0)) := by
    have := blk_new (w.alloc (.cells #[.slice AL nL cL, .slice AN nN cN] 25)) (.cells #[.slice AL' nL' cL', .slice AN' nN' cN'] 25)
    rw [World.size_alloc] at this
    exact this
  have hcells : ∀ W : World, W.heap[w.heap.size]? = some (.cells #[.slice AL nL cL, .slice AN nN cN] 25 (0, 0)) → W.heap[w.heap.size + 1]? = some (.cells #[.slice AL' nL' cL', .slice AN' nN' cN'] 25 (0, 0)) →
      W.cell? ⟨w.heap.size, 0, none⟩ = some (.slice AL nL cL) ∧ W.cell? ⟨w.heap.size, 1, none⟩ = some (.slice AN nN cN) ∧ W.cell? ⟨w.heap.size + 1, 0, none⟩ = some (.slice AL' nL' cL') ∧ W.cell? ⟨w.heap.size + 1, 1, none⟩ = some (.slice AN' nN' cN') := fun W h0 h1 => ⟨(blk_cell h0 0).trans rfl, (blk_cell h0 1).trans rfl, (blk_cell h1 0).trans rfl, (blk_cell h1 1).trans rfl⟩
  have HCELLS := Aside0.mk hcells
  have HB0 := Aside0.mk hB0
  have K0 := Aside0.mk k0
  have K1 := Aside0.mk k1
  clear hb1 b1 hcells hB0 k0 k1
  by_cases hbb : b = true ∧ b' = true
  · obtain ⟨rfl, rfl⟩ := hbb
    have hcs : (e1 != 0) = true ∨ ((e1 != 0) = false ∧ (e2 != 0) = true) ∨ ((e1 != 0) = false ∧ (e2 != 0) = false) := by
      cases (e1 != 0) <;> cases (e2 != 0) <;> simp
    rcases hcs with p1 | ⟨p1, p2⟩ | ⟨p1, p2⟩
    · go_enter Tryd.func7, Tryd.ntmps7
      go_wp2_with (first
        | (go_at_call 10; refine (awake10 _ (HLW.out.below HB0.out)).mono ?_; rintro e w1 ⟨rfl, hB⟩; have HB1 := Aside0.mk (HB0.out.trans (hB.mono HB0.out.size)); have K01 := Aside0.mk (blk_below K0.out hB); have K11 := Aside0.mk (blk_below K1.out hB); obtain ⟨c0, c1, c2, c3⟩ := HCELLS.out _ K01.out K11.out; clear hB)
        | (go_at_call 11; refine (HS'.out _ HB2.out).mono ?_; rintro e w3 ⟨rfl, hB⟩; have HB3 := Aside0.mk (HB2.out.trans (hB.mono HB2.out.size)); have K03 := Aside0.mk (blk_below K02.out hB); have K13 := Aside0.mk (blk_below K12.out hB); obtain ⟨g0, g1, g2, g3⟩ := HCELLS.out _ K03.out K13.out; clear hB)
        | (go_at_call 11; refine (HS.out _ HB1.out).mono ?_; rintro e w2 ⟨rfl, hB⟩; have HB2 := Aside0.mk (HB1.out.trans (hB.mono HB1.out.size)); have K02 := Aside0.mk (blk_below K01.out hB); have K12 := Aside0.mk (blk_below K11.out hB); obtain ⟨d0, d1, d2, d3⟩ := HCELLS.out _ K02.out K12.out; clear hB)
        | (go_at_call 12; refine (HBY'.out _ HB4.out).mono ?_; rintro e w5 ⟨A5, q5, rfl, hc5, hR5, hB⟩; have HB5 := Aside0.mk (HB4.out.trans (hB.mono HB4.out.size)); have K05 := Aside0.mk (blk_below K04.out hB); have K15 := Aside0.mk (blk_below K14.out hB); obtain ⟨i0, i1, i2, i3⟩ := HCELLS.out _ K05.out K15.out; have HR5 := Aside0.mk hR5; have HR45 := Aside0.mk (Kd.R_below HR4.out hB); clear hB hR5 hc5)
        | (go_at_call 12; refine (HBY.out _ HB3.out).mono ?_; rintro e w4 ⟨A4, q4, rfl, hc4, hR4, hB⟩; have HB4 := Aside0.mk (HB3.out.trans (hB.mono HB3.out.size)); have K04 := Aside0.mk (blk_below K03.out hB); have K14 := Aside0.mk (blk_below K13.out hB); obtain ⟨h0, h1, h2, h3⟩ := HCELLS.out _ K04.out K14.out; have HR4 := Aside0.mk hR4; clear hB hR4 hc4))
      go_quiet (fail)
      all_goals go_wp2_with fail
      all_goals
        go_ret
        exact ⟨rfl, by repeat (first | exact HB5.out | apply pw_below_drewN | apply below_drew)⟩
    · go_enter Tryd.func7, Tryd.ntmps7
      go_wp2_with (first
        | (go_at_call 10; refine (awake10 _ (HLW.out.below HB0.out)).mono ?_; rintro e w1 ⟨rfl, hB⟩; have HB1 := Aside0.mk (HB0.out.trans (hB.mono HB0.out.size)); have K01 := Aside0.mk (blk_below K0.out hB); have K11 := Aside0.mk (blk_below K1.out hB); obtain ⟨c0, c1, c2, c3⟩ := HCELLS.out _ K01.out K11.out; clear hB)
        | (go_at_call 11; refine (HS'.out _ HB2.out).mono ?_; rintro e w3 ⟨rfl, hB⟩; have HB3 := Aside0.mk (HB2.out.trans (hB.mono HB2.out.size)); have K03 := Aside0.mk (blk_below K02.out hB); have K13 := Aside0.mk (blk_below K12.out hB); obtain ⟨g0, g1, g2, g3⟩ := HCELLS.out _ K03.out K13.out; clear hB)
        | (go_at_call 11; refine (HS.out _ HB1.out).mono ?_; rintro e w2 ⟨rfl, hB⟩; have HB2 := Aside0.mk (HB1.out.trans (hB.mono HB1.out.size)); have K02 := Aside0.mk (blk_below K01.out hB); have K12 := Aside0.mk (blk_below K11.out hB); obtain ⟨d0, d1, d2, d3⟩ := HCELLS.out _ K02.out K12.out; clear hB)
        | (go_at_call 12; refine (HBY'.out _ HB4.out).mono ?_; rintro e w5 ⟨A5, q5, rfl, hc5, hR5, hB⟩; have HB5 := Aside0.mk (HB4.out.trans (hB.mono HB4.out.size)); have K05 := Aside0.mk (blk_below K04.out hB); have K15 := Aside0.mk (blk_below K14.out hB); obtain ⟨i0, i1, i2, i3⟩ := HCELLS.out _ K05.out K15.out; have HR5 := Aside0.mk hR5; have HR45 := Aside0.mk (Kd.R_below HR4.out hB); clear hB hR5 hc5)
        | (go_at_call 12; refine (HBY.out _ HB3.out).mono ?_; rintro e w4 ⟨A4, q4, rfl, hc4, hR4, hB⟩; have HB4 := Aside0.mk (HB3.out.trans (hB.mono HB3.out.size)); have K04 := Aside0.mk (blk_below K03.out hB); have K14 := Aside0.mk (blk_below K13.out hB); obtain ⟨h0, h1, h2, h3⟩ := HCELLS.out _ K04.out K14.out; have HR4 := Aside0.mk hR4; clear hB hR4 hc4))
      go_quiet (fail)
      all_goals go_wp2_with fail
      all_goals
        go_ret
        exact ⟨rfl, by repeat (first | exact HB5.out | apply pw_below_drewN | apply below_drew)⟩
    · go_enter Tryd.func7, Tryd.ntmps7
      go_wp2_with (first
        | (go_at_call 10; refine (awake10 _ (HLW.out.below HB0.out)).mono ?_; rintro e w1 ⟨rfl, hB⟩; have HB1 := Aside0.mk (HB0.out.trans (hB.mono HB0.out.size)); have K01 := Aside0.mk (blk_below K0.out hB); have K11 := Aside0.mk (blk_below K1.out hB); obtain ⟨c0, c1, c2, c3⟩ := HCELLS.out _ K01.out K11.out; clear hB)
        | (go_at_call 11; refine (HS'.out _ HB2.out).mono ?_; rintro e w3 ⟨rfl, hB⟩; have HB3 := Aside0.mk (HB2.out.trans (hB.mono HB2.out.size)); have K03 := Aside0.mk (blk_below K02.out hB); have K13 := Aside0.mk (blk_below K12.out hB); obtain ⟨g0, g1, g2, g3⟩ := HCELLS.out _ K03.out K13.out; clear hB)
        | (go_at_call 11; refine (HS.out _ HB1.out).mono ?_; rintro e w2 ⟨rfl, hB⟩; have HB2 := Aside0.mk (HB1.out.trans (hB.mono HB1.out.size)); have K02 := Aside0.mk (blk_below K01.out hB); have K12 := Aside0.mk (blk_below K11.out hB); obtain ⟨d0, d1, d2, d3⟩ := HCELLS.out _ K02.out K12.out; clear hB)
        | (go_at_call 12; refine (HBY'.out _ HB4.out).mono ?_; rintro e w5 ⟨A5, q5, rfl, hc5, hR5, hB⟩; have HB5 := Aside0.mk (HB4.out.trans (hB.mono HB4.out.size)); have K05 := Aside0.mk (blk_below K04.out hB); have K15 := Aside0.mk (blk_below K14.out hB); obtain ⟨i0, i1, i2, i3⟩ := HCELLS.out _ K05.out K15.out; have HR5 := Aside0.mk hR5; have HR45 := Aside0.mk (Kd.R_below HR4.out hB); clear hB hR5 hc5)
        | (go_at_call 12; refine (HBY.out _ HB3.out).mono ?_; rintro e w4 ⟨A4, q4, rfl, hc4, hR4, hB⟩; have HB4 := Aside0.mk (HB3.out.trans (hB.mono HB3.out.size)); have K04 := Aside0.mk (blk_below K03.out hB); have K14 := Aside0.mk (blk_below K13.out hB); obtain ⟨h0, h1, h2, h3⟩ := HCELLS.out _ K04.out K14.out; have HR4 := Aside0.mk hR4; clear hB hR4 hc4))
      have p3 : e1 = 0 := by simpa using p1
      have p4 : e2 = 0 := by simpa using p2
      have hq := HEQ.out p3 p4
      have HQ := Aside0.mk hq
      clear p3 p4 hq
      have hfact : ∀ W, Below w5.heap.size w5 W → (convert 28 9 (.slice A4 B.length q4)).run Tryd.prog W = .ok (.string (strOfNums B)) W ∧ (convert 28 9 (.slice A5 B'.length q5)).run Tryd.prog W = .ok (.string (strOfNums B')) W ∧ W.cell? ⟨w.heap.size, 0, none⟩ = some (.slice AL nL cL) ∧ W.cell? ⟨w.heap.size, 1, none⟩ = some (.slice AN nN cN) ∧ W.cell? ⟨w.heap.size + 1, 0, none⟩ = some (.slice AL' nL' cL') ∧ W.cell? ⟨w.heap.size + 1, 1, none⟩ = some (.slice AN' nN' cN') := fun W hB => ⟨conv_in (Kd.R_reads' HR45.out).2.2 hB, conv_in (Kd.R_reads' HR5.out).2.2 hB, HCELLS.out _ (blk_below K05.out hB) (blk_below K15.out hB)⟩
      have HFACT := Aside0.mk hfact
      clear hfact i0 i1 i2 i3
      go_region_held3 (fun W => (convert 28 9 (.slice A4 B.length q4)).run Tryd.prog W = .ok (.string (strOfNums B)) W ∧ (convert 28 9 (.slice A5 B'.length q5)).run Tryd.prog W = .ok (.string (strOfNums B')) W ∧ W.cell? ⟨w.heap.size, 0, none⟩ = some (.slice AL nL cL) ∧ W.cell? ⟨w.heap.size, 1, none⟩ = some (.slice AN nN cN) ∧ W.cell? ⟨w.heap.size + 1, 0, none⟩ = some (.slice AL' nL' cL') ∧ W.cell? ⟨w.heap.size + 1, 1, none⟩ = some (.slice AN' nN' cN'))
        (first
          | exact HFACT.out _ (below_drew (Below.refl _ _))
          | exact HFACT.out _ hB6)
        (first | (go_at_call 15; refine (HSAME.out _ ?hb).mono ?_; (case hb => repeat (first | exact HB5.out | apply pw_below_drewN | apply below_drew)); rintro e w6 ⟨rfl, hB⟩; have hB6 : Below w5.heap.size w5 w6 := Below.trans (by repeat (first | exact Below.refl _ _ | apply pw_below_drewN | apply below_drew)) hB; have HB6 := Aside0.mk (HB5.out.trans (hB6.mono HB5.out.size)); clear hB))
      all_goals go_wp2_with fail
      all_goals
        go_ret
        show Ans w (.returned (.bool (((strOfNums B).toList == (strOfNums B').toList) == q))) _
        rw [HQ.out, beq_self_eq_true]
        exact ⟨rfl, by repeat (first | exact HB6.out | apply pw_below_drewN | apply below_drew)⟩
  · have hcs : b = false ∨ (b = true ∧ b' = false) := by
      cases b
      · exact .inl rfl
      · cases b'
        · exact .inr ⟨rfl, rfl⟩
        · exact absurd ⟨rfl, rfl⟩ hbb
    clear hbb
    rcases hcs with rfl | ⟨rfl, rfl⟩
    · go_enter Tryd.func7, Tryd.ntmps7
      go_wp2_with (first
        | (go_at_call 10; refine (awake10 _ (HLW.out.below HB0.out)).mono ?_; rintro e w1 ⟨rfl, hB⟩; have HB1 := Aside0.mk (HB0.out.trans (hB.mono HB0.out.size)); have K01 := Aside0.mk (blk_below K0.out hB); have K11 := Aside0.mk (blk_below K1.out hB); obtain ⟨c0, c1, c2, c3⟩ := HCELLS.out _ K01.out K11.out; clear hB)
        | (go_at_call 11; refine (HS.out _ HB1.out).mono ?_; rintro e w2 ⟨rfl, hB⟩; have HB2 := Aside0.mk (HB1.out.trans (hB.mono HB1.out.size)); have K02 := Aside0.mk (blk_below K01.out hB); have K12 := Aside0.mk (blk_below K11.out hB); obtain ⟨d0, d1, d2, d3⟩ := HCELLS.out _ K02.out K12.out; clear hB))
      go_ret
      exact ⟨rfl, HB2.out⟩
    · go_enter Tryd.func7, Tryd.ntmps7
      go_wp2_with (first
        | (go_at_call 10; refine (awake10 _ (HLW.out.below HB0.out)).mono ?_; rintro e w1 ⟨rfl, hB⟩; have HB1 := Aside0.mk (HB0.out.trans (hB.mono HB0.out.size)); have K01 := Aside0.mk (blk_below K0.out hB); have K11 := Aside0.mk (blk_below K1.out hB); obtain ⟨c0, c1, c2, c3⟩ := HCELLS.out _ K01.out K11.out; clear hB)
        | (go_at_call 11; refine (HS'.out _ HB2.out).mono ?_; rintro e w3 ⟨rfl, hB⟩; have HB3 := Aside0.mk (HB2.out.trans (hB.mono HB2.out.size)); have K03 := Aside0.mk (blk_below K02.out hB); have K13 := Aside0.mk (blk_below K12.out hB); obtain ⟨g0, g1, g2, g3⟩ := HCELLS.out _ K03.out K13.out; clear hB)
        | (go_at_call 11; refine (HS.out _ HB1.out).mono ?_; rintro e w2 ⟨rfl, hB⟩; have HB2 := Aside0.mk (HB1.out.trans (hB.mono HB1.out.size)); have K02 := Aside0.mk (blk_below K01.out hB); have K12 := Aside0.mk (blk_below K11.out hB); obtain ⟨d0, d1, d2, d3⟩ := HCELLS.out _ K02.out K12.out; clear hB))
      go_ret
      exact ⟨rfl, HB3.out⟩
end Go.Proofs.YtckmgoeflecpgaaDoor.H
