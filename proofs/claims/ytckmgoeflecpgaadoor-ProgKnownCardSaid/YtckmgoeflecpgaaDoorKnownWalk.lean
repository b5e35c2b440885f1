/- The law ProgKnown, walked over the contracts of what it calls. -/
import Derived.Test.YtckmgoeflecpgaaDoorKnownA
import Derived.Lib.SlBytesConst
namespace Go.Proofs.YtckmgoeflecpgaaDoor.H
set_option linter.unusedVariables false
set_option linter.unusedSimpArgs false
open Go.RowKit Go.Proofs.YtckmgoeflecpgaaDoor.L Go.Proofs.YtckmgoeflecpgaaDoor.I Go.Proofs.YtckmgoeflecpgaaDoor.G Go.Proofs.YtckmgoeflecpgaaDoor.P Go.Proofs.YtckmgoeflecpgaaDoorW.PrintWords Go.Proofs.YtckmgoeflecpgaaDoorW.PrintLast Go.Proofs.YtckmgoeflecpgaaDoorW.PrintMore
theorem bytesK (L : List S41) (N : List ByteArray) (B : List Int) (e : Int) (h : bytesV L N = (B, e)) (AL : Option Addr) (nL cL : Nat) (AN : Option Addr) (nN cN : Nat) (W : World) (hL : L.length = nL) (hN : N.length = nN) (hcL : nL ≤ cL) (hcN : nN ≤ cN) (h1 : Kd.C k41 W AL nL L) (h2 : Kd.C Kd.string W AN nN N) :
    Calls Tryd.prog 12 #[.agg #[.slice AL nL cL, .slice AN nN cN]] W fun e' w' => ∃ A c, e' = .returned (.tuple #[.slice A B.length c, .int .i64 e]) ∧ Kd.C (Kd.int .u8) w' A B.length B ∧ Below W.heap.size W w' := by
  subst hL
  subst hN
  obtain ⟨k, hk⟩ := (bytes_ev L N).rounds
  rw [h] at hk
  refine (prog_Bytes.calls k AL cL L AN cN N B e W h1 hcL h2 hcN hk).mono ?_
  rintro e' w' ⟨v, rfl, hR, hB'⟩
  obtain ⟨A, c, rfl, hc, hC⟩ := Kd.R_reads hR
  exact ⟨A, c, rfl, hC, hB'⟩
theorem C41nil (W : World) : Kd.C k41 W none 0 [] := ⟨rfl, by omega, fun h => absurd h (Nat.lt_irrefl 0)⟩
theorem C9nil (W : World) : Kd.C Kd.string W none 0 [] := ⟨rfl, by omega, fun h => absurd h (Nat.lt_irrefl 0)⟩
theorem infoZ : ∃ i, Tryd.prog.info? 41 = some i ∧ i.zero = some (.agg #[.int .i64 0, .int .i64 0]) ∧ i.size = 2 ∧ i.bytes = 16 := info_parts (show (Tryd.prog.info? 41).map (fun i => (i.zero, i.size, i.bytes)) = some (some (.agg #[.int .i64 0, .int .i64 0]), 2, 16) by kernel_rfl)
theorem flat_rep : ∀ m : Nat, flat (List.replicate m ⟨0, 0⟩) = List.replicate (m * 2) (Value.int .i64 0)
  | 0 => rfl
  | m + 1 => by
    have e : flat (List.replicate (m + 1) (⟨0, 0⟩ : S41)) = .int .i64 0 :: .int .i64 0 :: flat (List.replicate m ⟨0, 0⟩) := rfl
    rw [e, flat_rep m, show (m + 1) * 2 = m * 2 + 1 + 1 by omega, List.replicate_succ, List.replicate_succ]
theorem made41 (m : Nat) : madeCells #[.int .i64 0, .int .i64 0] (m * 2) = (flat (List.replicate m ⟨0, 0⟩)).toArray := by
  rw [flat_rep]
  apply Array.ext
  · simp [madeCells]
  · intro i h1 h2
    simp [madeCells]
    rcases Nat.mod_two_eq_zero_or_one i with h | h <;> simp [h]
theorem make41 (m : Nat) (hm : m ≤ 1000) (W : World) : (Instr.makeSlice 22 (.int .i64 (m : Int)) (.int .i64 (m : Int))).run Tryd.prog W = .ok (.slice (some ⟨W.heap.size, 0, none⟩) m m) (W.alloc (.cells (flat (List.replicate m ⟨0, 0⟩)).toArray 41)) := by
  obtain ⟨i, hi, hz, hs, hb⟩ := infoZ
  have := run_makeSlice (P := Tryd.prog) W 22 41 i (.agg #[.int .i64 0, .int .i64 0]) Tryd.underlying22 hi hz .i64 .i64 m m (by omega) (Int.le_refl _) (by rw [hs]; simp; omega) (by rw [hb]; omega) (by omega)
  simp only [Int.toNat_natCast, hs] at this
  rw [this]
  have e : (Value.agg #[.int .i64 0, .int .i64 0]).cells = #[.int .i64 0, .int .i64 0] := rfl
  rw [e, made41]
theorem make9 (m : Nat) (hm : m ≤ 1000) (W : World) : (Instr.makeSlice 23 (.int .i64 (m : Int)) (.int .i64 (m : Int))).run Tryd.prog W = .ok (.slice (some ⟨W.heap.size, 0, none⟩) m m) (W.alloc (.cells ((List.replicate m (⟨#[]⟩ : ByteArray)).map Value.string).toArray 9)) := by
  have := run_make_row' (P := Tryd.prog) 23 9 (.string ⟨#[]⟩) 16 Tryd.underlying23 info9 rfl .i64 .i64 m (by omega) (by omega) W
  rw [this]
  have e : madeCells #[Value.string ⟨#[]⟩] m = ((List.replicate m (⟨#[]⟩ : ByteArray)).map Value.string).toArray := by
    apply Array.ext
    · simp [madeCells]
    · intro i h1 h2
      simp [madeCells, Nat.mod_one]
  rw [e]
theorem alloc3 (W : World) (o1 o2 o3 : Obj) : (((W.alloc o1).alloc o2).alloc o3).heap[W.heap.size]? = some o1 ∧ (((W.alloc o1).alloc o2).alloc o3).heap[W.heap.size + 1]? = some o2 ∧ (((W.alloc o1).alloc o2).alloc o3).heap[W.heap.size + 1 + 1]? = some o3 := by
  have h2 := blk_new (W.alloc o1) o2
  rw [World.size_alloc] at h2
  have h3 := blk_new ((W.alloc o1).alloc o2) o3
  rw [World.size_alloc, World.size_alloc] at h3
  exact ⟨blk_alloc (blk_alloc (blk_new W o1) _) _, blk_alloc h2 _, h3⟩
theorem alloc2 (W : World) (o1 o2 : Obj) : ((W.alloc o1).alloc o2).heap[W.heap.size]? = some o1 ∧ ((W.alloc o1).alloc o2).heap[W.heap.size + 1]? = some o2 := by
  have h2 := blk_new (W.alloc o1) o2
  rw [World.size_alloc] at h2
  exact ⟨blk_alloc (blk_new W o1) _, h2⟩
theorem C_marked {W : World} {n : Nat} {l : List Int} {m : Nat × Nat} (hl : l.length = n) (hn : n ≤ 1000) : Kd.C (Kd.int .u8) (W.alloc (.cells (l.map (Value.int .u8)).toArray 5 m)) (some ⟨W.heap.size, 0, none⟩) n l := by
  refine Kd.C_of_reads (enc := Value.int .u8) (d := (0 : Int)) (h1 := fun _ => rfl) ⟨hl, by omega, fun h => ⟨_, rfl, fun j hj => ?_⟩⟩
  have e : (⟨W.heap.size, 0, none⟩ : Addr).add j = ⟨W.heap.size, j, none⟩ := by
    unfold Addr.add
    by_cases h : j = 0
    · rw [if_pos h, h]
    · rw [if_neg h]; simp
  have hb : (W.alloc (.cells (l.map (Value.int .u8)).toArray 5 m)).heap[W.heap.size]? = some (.cells (l.map (Value.int .u8)).toArray 5 m) := by
    show (W.heap.push _)[W.heap.size]? = _
    simp
  have hj' : j < l.length := by omega
  rw [e]
  unfold World.cell?
  rw [hb]
  simp [List.getD_eq_getElem?_getD, List.getElem?_eq_getElem hj']
theorem readR (l : List Int) (hl : l.length = 7) (ok : okB l) (h5 : (readV l).2.2 = 5) (W : World) :
    Calls Tryd.prog 14 #[.slice (some ⟨W.heap.size, 0, none⟩) 7 7] (W.alloc (.cells (l.map (Value.int .u8)).toArray 5 (7, 8))) fun e w' => ∃ A0 n0 c0 A1 n1 c1, e = .returned (.tuple #[.agg #[.slice A0 n0 c0, .slice A1 n1 c1], .int .i64 5]) ∧ Below W.heap.size W w' := by
  have := readC (some ⟨W.heap.size, 0, none⟩) 7 7 l hl (Nat.le_refl _) ok _ (C_marked (W := W) (m := (7, 8)) hl (by omega))
  rw [h5] at this
  refine this.mono ?_
  rintro e w' ⟨A0, n0, c0, A1, n1, c1, he, hB⟩
  exact ⟨A0, n0, c0, A1, n1, c1, he, (below_alloc (Below.refl _ W) _).trans (hB.mono (below_alloc (Below.refl _ W) _).size)⟩
theorem textR (n : Nat) (hn : n ≤ 1000) (L : List S41) (hL : L.length = n) (ok : okId L = true) (A : Option Addr) (u : Value) (W : World) (hu : u.oneCell' = true) (hLW : LW W) (hC : Kd.C k41 W A n L) :
    Calls Tryd.prog 19 #[.agg #[.slice A n n, u]] W fun e w' => e = .returned (.string (textV L)) ∧ Below W.heap.size W w' := by
  unfold okId at ok
  rw [Bool.and_eq_true] at ok
  exact text19 A n n L u W hu hL (by omega) (Nat.le_refl _) hC (fun x hx => by
      have := List.all_eq_true.1 ok.1 x hx
      rw [Bool.and_eq_true] at this
      exact ⟨of_decide_eq_true this.1, of_decide_eq_true this.2⟩) hLW.ht hLW.hp
theorem textR3 (A : Option Addr) (u : Value) (W : World) (hu : u.oneCell' = true) (hLW : LW W) (hC : Kd.C k41 W A 3 L3) :
    Calls Tryd.prog 19 #[.agg #[.slice A 3 3, u]] W fun e w' => e = .returned (.string ⟨#[48, 32, 112, 117, 115, 104, 32, 52, 54, 54, 48, 10, 49, 32, 114, 101, 110, 97, 109, 101, 32, 49, 48, 10, 50, 32, 101, 120, 105, 116, 10]⟩) ∧ Below W.heap.size W w' := by
  have := textR 3 (by omega) L3 rfl (by kernel_rfl) A u W hu hLW hC
  rw [text3] at this
  exact this
theorem textR2 (A : Option Addr) (u : Value) (W : World) (hu : u.oneCell' = true) (hLW : LW W) (hC : Kd.C k41 W A 2 [⟨0, 0⟩, ⟨2, 3⟩]) :
    Calls Tryd.prog 19 #[.agg #[.slice A 2 2, u]] W fun e w' => e = .returned (.string ⟨#[48, 32, 63, 10, 49, 32, 63, 10]⟩) ∧ Below W.heap.size W w' := by
  have := textR 2 (by omega) [⟨0, 0⟩, ⟨2, 3⟩] rfl (by kernel_rfl) A u W hu hLW hC
  rw [text2] at this
  exact this
theorem okRa : okB [88, 82, 0, 1, 0, 0, 0] := by intro x hx; simp at hx; omega
theorem okRb : okB [88, 82, 0, 1, 2, 0, 1] := by intro x hx; simp at hx; omega
theorem wantL : (strOfNums want).toList = [88, 82, 2, 2, 97, 98, 0, 3, 1, 18, 52, 34, 0, 10, 26, 0, 0] := by kernel_rfl
set_option maxHeartbeats 8000000 in
set_option maxRecDepth 100000 in
theorem known6 (w : World) (hLW : LW w) : Calls Tryd.prog 6 #[] w (Ans w) := by
  have HLW := Aside0.mk hLW
  obtain ⟨R97, hR97⟩ : ∃ R, (flat (List.replicate 97 ⟨0, 0⟩)).toArray = R := ⟨_, rfl⟩
  obtain ⟨R1, hR1⟩ : ∃ R, (flat (List.replicate 1 ⟨0, 0⟩)).toArray = R := ⟨_, rfl⟩
  obtain ⟨R9, hR9⟩ : ∃ R, ((List.replicate 9 (⟨#[]⟩ : ByteArray)).map Value.string).toArray = R := ⟨_, rfl⟩
  have M97 : ∀ W : World, (Instr.makeSlice 22 (.int .i64 97) (.int .i64 97)).run Tryd.prog W = .ok (.slice (some ⟨W.heap.size, 0, none⟩) 97 97) (W.alloc (.cells R97 41)) := fun W => by rw [← hR97]; exact make41 97 (by omega) W
  have M1 : ∀ W : World, (Instr.makeSlice 22 (.int .i64 1) (.int .i64 1)).run Tryd.prog W = .ok (.slice (some ⟨W.heap.size, 0, none⟩) 1 1) (W.alloc (.cells R1 41)) := fun W => by rw [← hR1]; exact make41 1 (by omega) W
  have M9 : ∀ W : World, (Instr.makeSlice 23 (.int .i64 9) (.int .i64 9)).run Tryd.prog W = .ok (.slice (some ⟨W.heap.size, 0, none⟩) 9 9) (W.alloc (.cells R9 9)) := fun W => by rw [← hR9]; exact make9 9 (by omega) W
  have hB3 := bytesK L3 N2 want 0 bytes3
  have H97 : Aside0 (∀ W : World, Calls Tryd.prog 12 #[.agg #[.slice (some ⟨W.heap.size, 0, none⟩) 97 97, .slice none 0 0]] (W.alloc (.cells R97 41)) fun e' w' => ∃ A c, e' = .returned (.tuple #[.slice A 0 c, .int .i64 3]) ∧ Below (W.alloc (.cells R97 41)).heap.size (W.alloc (.cells R97 41)) w') := ⟨fun W => (bytesK _ _ [] 3 bytes97 _ 97 97 none 0 0 _ (List.length_replicate) rfl (Nat.le_refl _) (Nat.le_refl _) (C41 List.length_replicate (by omega) (by rw [hR97]; exact blk_new W _)) (C9nil _)).mono fun e w' ⟨A, c, he, _, hb⟩ => ⟨A, c, he, hb⟩⟩
  have H9 : Aside0 (∀ W : World, Calls Tryd.prog 12 #[.agg #[.slice none 0 0, .slice (some ⟨W.heap.size, 0, none⟩) 9 9]] (W.alloc (.cells R9 9)) fun e' w' => ∃ A c, e' = .returned (.tuple #[.slice A 0 c, .int .i64 3]) ∧ Below (W.alloc (.cells R9 9)).heap.size (W.alloc (.cells R9 9)) w') := ⟨fun W => (bytesK _ _ [] 3 bytes9 none 0 0 _ 9 9 _ rfl (List.length_replicate) (Nat.le_refl _) (Nat.le_refl _) (C41nil _) (C9 List.length_replicate (by omega) (by rw [hR9]; exact blk_new W _))).mono fun e w' ⟨A, c, he, _, hb⟩ => ⟨A, c, he, hb⟩⟩
  have H1 : Aside0 (∀ W : World, Calls Tryd.prog 12 #[.agg #[.slice (some ⟨W.heap.size, 0, none⟩) 1 1, .slice none 0 0]] (W.alloc (.cells R1 41)) fun e' w' => ∃ A c, e' = .returned (.tuple #[.slice A 0 c, .int .i64 5]) ∧ Below (W.alloc (.cells R1 41)).heap.size (W.alloc (.cells R1 41)) w') := ⟨fun W => (bytesK [⟨0, 0⟩] _ [] 5 bytes1 _ 1 1 none 0 0 _ rfl rfl (Nat.le_refl _) (Nat.le_refl _) (C41 rfl (by omega) (by rw [← hR1]; exact blk_new W _)) (C9nil _)).mono fun e w' ⟨A, c, he, _, hb⟩ => ⟨A, c, he, hb⟩⟩
  have HBK : Aside0 (∀ W : World, Calls Tryd.prog 12 #[.agg #[.slice (some ⟨W.heap.size, 0, none⟩) 3 3, .slice (some ⟨W.heap.size + 1, 0, none⟩) 2 2]] (((W.alloc (.cells #[.int .i64 1, .int .i64 4660, .int .i64 34, .int .i64 10, .int .i64 26, .int .i64 0] 41)).alloc (.cells #[.string ⟨#[97, 98]⟩, .string ⟨#[]⟩] 9)).alloc (.cells #[.slice (some ⟨W.heap.size, 0, none⟩) 3 3, .slice (some ⟨W.heap.size + 1, 0, none⟩) 2 2] 25)) fun e' w' => ∃ A c, e' = .returned (.tuple #[.slice A 17 c, .int .i64 0]) ∧ (∀ W', Below w'.heap.size w' W' → (convert 28 9 (.slice A 17 c)).run Tryd.prog W' = .ok (.string (strOfNums want)) W') ∧ w'.heap[W.heap.size + 1 + 1]? = some (.cells #[.slice (some ⟨W.heap.size, 0, none⟩) 3 3, .slice (some ⟨W.heap.size + 1, 0, none⟩) 2 2] 25 (0, 0)) ∧ Kd.C k41 w' (some ⟨W.heap.size, 0, none⟩) 3 L3 ∧ Below W.heap.size W w') := ⟨fun W => by
    obtain ⟨a1, a2, a3⟩ := alloc3 W (.cells #[.int .i64 1, .int .i64 4660, .int .i64 34, .int .i64 10, .int .i64 26, .int .i64 0] 41) (.cells #[.string ⟨#[97, 98]⟩, .string ⟨#[]⟩] 9) (.cells #[.slice (some ⟨W.heap.size, 0, none⟩) 3 3, .slice (some ⟨W.heap.size + 1, 0, none⟩) 2 2] 25)
    have c1 : Kd.C k41 _ _ 3 L3 := C41 rfl (by omega) a1
    refine (bytesK L3 N2 want 0 bytes3 _ 3 3 _ 2 2 _ rfl rfl (Nat.le_refl _) (Nat.le_refl _) c1 (C9 rfl (by omega) a2)).mono ?_
    rintro e w' ⟨A, c, he, hC, hb⟩
    exact ⟨A, c, he, fun W' h => conv_in hC h, blk_below a3 hb, Kd.C_below c1 hb, (below_alloc (below_alloc (below_alloc (Below.refl _ _) _) _) _).trans (hb.mono (by rw [World.size_alloc, World.size_alloc, World.size_alloc]; omega))⟩⟩
  clear hLW hB3 hR97 hR1 hR9
  go_enter Tryd.func6, Tryd.ntmps6
  go_wp2_with (first
    | (go_at_call 12; refine (H1.out w4).mono ?_; rintro e w5 ⟨A5, c5, rfl, hB⟩; have HB5 := Aside0.mk ((below_alloc HB4.out _).trans (hB.mono (below_alloc HB4.out _).size)); have HB25 := Aside0.mk ((below_alloc HB24.out _).trans (hB.mono (below_alloc HB24.out _).size)); clear hB)
    | (go_at_call 12; refine (H9.out w3).mono ?_; rintro e w4 ⟨A4, c4, rfl, hB⟩; have HB4 := Aside0.mk ((below_alloc HB3.out _).trans (hB.mono (below_alloc HB3.out _).size)); have HB24 := Aside0.mk ((below_alloc HB23.out _).trans (hB.mono (below_alloc HB23.out _).size)); clear hB)
    | (go_at_call 12; refine (H97.out w2).mono ?_; rintro e w3 ⟨A3, c3, rfl, hB⟩; have HB3 := Aside0.mk ((below_alloc HB2.out _).trans (hB.mono (below_alloc HB2.out _).size)); have HB23 := Aside0.mk ((below_alloc (Below.refl _ w2) _).trans (hB.mono (below_alloc (Below.refl _ w2) _).size)); clear hB)
    | (go_at_call 12; refine (HBK.out w1).mono ?_; rintro e w2 ⟨A2, c2, rfl, hcv, hbx, hC3, hB⟩; have HB2 := Aside0.mk (HB1.out.trans (hB.mono HB1.out.size)); have HCV := Aside0.mk hcv; have HBX := Aside0.mk hbx; have HC3 := Aside0.mk hC3; clear hB hcv hbx hC3)
    | (go_at_call 10; refine (awake10 _ HLW.out).mono ?_; rintro e w1 ⟨rfl, hB⟩; have HB1 := Aside0.mk hB; clear hB))
  have HC9 := Aside0.mk (show Kd.C Kd.string (w5.alloc (.cells #[.string ⟨#[]⟩, .string ⟨#[88, 82]⟩, .string ⟨#[88, 83, 0, 0]⟩, .string ⟨#[88, 82, 0, 0, 0]⟩, .string ⟨#[88, 82, 1, 2, 97]⟩, .string ⟨#[88, 82, 0, 1, 1, 0]⟩] 9)) (some ⟨w5.heap.size, 0, none⟩) 6 bads from C9 rfl (by omega) (blk_new w5 _))
  have HB6 := Aside0.mk (below_alloc HB5.out (.cells #[.string ⟨#[]⟩, .string ⟨#[88, 82]⟩, .string ⟨#[88, 83, 0, 0]⟩, .string ⟨#[88, 82, 0, 0, 0]⟩, .string ⟨#[88, 82, 1, 2, 97]⟩, .string ⟨#[88, 82, 0, 1, 1, 0]⟩] 9))
  have HB26 := Aside0.mk (below_alloc HB25.out (.cells #[.string ⟨#[]⟩, .string ⟨#[88, 82]⟩, .string ⟨#[88, 83, 0, 0]⟩, .string ⟨#[88, 82, 0, 0, 0]⟩, .string ⟨#[88, 82, 1, 2, 97]⟩, .string ⟨#[88, 82, 0, 1, 1, 0]⟩] 9))
  have HB56 := Aside0.mk (below_alloc (Below.refl w5.heap.size w5) (.cells #[.string ⟨#[]⟩, .string ⟨#[88, 82]⟩, .string ⟨#[88, 83, 0, 0]⟩, .string ⟨#[88, 82, 0, 0, 0]⟩, .string ⟨#[88, 82, 1, 2, 97]⟩, .string ⟨#[88, 82, 0, 1, 1, 0]⟩] 9))
  have hz6 : (w5.alloc (.cells #[.string ⟨#[]⟩, .string ⟨#[88, 82]⟩, .string ⟨#[88, 83, 0, 0]⟩, .string ⟨#[88, 82, 0, 0, 0]⟩, .string ⟨#[88, 82, 1, 2, 97]⟩, .string ⟨#[88, 82, 0, 1, 1, 0]⟩] 9)).heap.size = w5.heap.size + 1 := World.size_alloc _ _
  have HZ6 := Aside0.mk hz6
  obtain ⟨w6, hw6⟩ : ∃ w6, w5.alloc (.cells #[.string ⟨#[]⟩, .string ⟨#[88, 82]⟩, .string ⟨#[88, 83, 0, 0]⟩, .string ⟨#[88, 82, 0, 0, 0]⟩, .string ⟨#[88, 82, 1, 2, 97]⟩, .string ⟨#[88, 82, 0, 1, 1, 0]⟩] 9) = w6 := ⟨_, rfl⟩
  rw [hw6] at HC9 HB6 HB26 HB56 HZ6 ⊢
  clear hw6 hz6
  go_loopw [12] (fun v12 wr => ∃ i : Nat, v12 = .int .i64 (i : Int) ∧ i ≤ 6 ∧ Aside0 (Below w6.heap.size w6 wr)) (fun v12 _ => 6 - (intOf v12).toNat)
  case atStart => exact ⟨0, rfl, Nat.zero_le _, ⟨Below.refl _ _⟩⟩
  case round =>
    obtain ⟨i, rfl, hi6, HBR⟩ := hrel
    by_cases hi : i < 6
    · obtain ⟨ad, eA, hcell⟩ := (Kd.reads_of_C (enc := Value.string) (d := ByteArray.empty) (h1 := fun _ => rfl) (Kd.C_below HC9.out HBR.out)).2.2 (by omega)
      have ea : ad = ⟨w5.heap.size, 0, none⟩ := (Option.some.inj eA).symm
      subst ea
      have x0 := hcell i hi
      have hadd : (⟨w5.heap.size, 0, none⟩ : Addr).add i = ⟨w5.heap.size, i, none⟩ := by
        unfold Addr.add
        by_cases h : i = 0
        · rw [if_pos h, h]
        · rw [if_neg h]; simp
      rw [hadd] at x0
      obtain ⟨s, hs⟩ : ∃ s, bads.getD i ByteArray.empty = s := ⟨_, rfl⟩
      rw [hs] at x0
      have hsm : s ∈ bads := by
        rw [← hs, List.getD_eq_getElem?_getD, List.getElem?_eq_getElem (by exact hi)]
        exact List.getElem_mem _
      have hss : s.size ≤ 100 := by
        have h : bads.all (fun s => decide (s.size ≤ 100)) = true := by kernel_rfl
        exact of_decide_eq_true (List.all_eq_true.1 h s hsm)
      have h4 := bads4 s hsm
      have hcv : ∀ W : World, (convert 9 28 (.string s)).run Tryd.prog W = .ok (.slice (some ⟨W.heap.size, 0, none⟩) s.size (grownCap W s.size 0 5)) (Lib.bytesWorld W 5 s) := fun W => Lib.run_convert_string_bytes W 9 28 5 s Tryd.underlying9 Tryd.underlying28 Tryd.underlying5
      have HRD : Aside0 (∀ W : World, Calls Tryd.prog 14 #[.slice (some ⟨W.heap.size, 0, none⟩) s.size (grownCap W s.size 0 5)] (Lib.bytesWorld W 5 s) fun e w' => ∃ A0 n0 c0 A1 n1 c1, e = .returned (.tuple #[.agg #[.slice A0 n0 c0, .slice A1 n1 c1], .int .i64 4]) ∧ Below (Lib.bytesWorld W 5 s).heap.size (Lib.bytesWorld W 5 s) w') := ⟨fun W => by
        have := readC (some ⟨W.heap.size, 0, none⟩) s.size (grownCap W s.size 0 5) (bytesOf s) (bytesOf_length s) (grownCap_ge W s.size 0 5) (okB_bytesOf s) _ (C_bytes W s (by omega))
        rw [h4] at this
        exact this⟩
      have q1 : decide ((i : Int) < 6) = true := decide_eq_true (by omega)
      have q2 : decide (i < 6) = true := decide_eq_true hi
      clear hcell hs hsm hss h4 hadd eA
      go_wp2_with (go_at_call 14; refine (HRD.out _).mono ?_; rintro e w7 ⟨A7, n7, c7, A8, n8, c8, rfl, hB⟩; have HB7 := Aside0.mk (HBR.out.trans (((below_bytes wr s).trans (hB.mono (below_bytes wr s).size)).mono HBR.out.size)); clear hB)
      refine ⟨⟨i + 1, by simp [intOf], by omega, ⟨below_alloc HB7.out _⟩⟩, by simp [intOf]; omega⟩
    · have ei : i = 6 := by omega
      subst ei
      have HRa : Aside0 (∀ W : World, Calls Tryd.prog 14 #[.slice (some ⟨W.heap.size, 0, none⟩) 7 7] (W.alloc (.cells #[.int .u8 88, .int .u8 82, .int .u8 0, .int .u8 1, .int .u8 0, .int .u8 0, .int .u8 0] 5 (7, 8))) fun e w' => ∃ A0 n0 c0 A1 n1 c1, e = .returned (.tuple #[.agg #[.slice A0 n0 c0, .slice A1 n1 c1], .int .i64 5]) ∧ Below W.heap.size W w') := ⟨readR [88, 82, 0, 1, 0, 0, 0] rfl okRa read5a⟩
      have HRb : Aside0 (∀ W : World, Calls Tryd.prog 14 #[.slice (some ⟨W.heap.size, 0, none⟩) 7 7] (W.alloc (.cells #[.int .u8 88, .int .u8 82, .int .u8 0, .int .u8 1, .int .u8 2, .int .u8 0, .int .u8 1] 5 (7, 8))) fun e w' => ∃ A0 n0 c0 A1 n1 c1, e = .returned (.tuple #[.agg #[.slice A0 n0 c0, .slice A1 n1 c1], .int .i64 5]) ∧ Below W.heap.size W w') := ⟨readR [88, 82, 0, 1, 2, 0, 1] rfl okRb read5b⟩
      have hw := wantL
      have kc := fun (W : World) (C : Array Value) => Lib.run_convert_bytes_const (P := Tryd.prog) W 28 5 C 7 7 Tryd.underlying28 Tryd.underlying5
      go_wp2_with (first
        | (go_at_call 14; have h_ := HRb.out (w7.alloc (.cells #[.slice A7 n7 c7, .slice A8 n8 c8] 25)); rw [World.size_alloc] at h_; refine h_.mono ?_; clear h_; rintro e w8 ⟨A9, n9, c9, A10, n10, c10, rfl, hB⟩; have HB8 := Aside0.mk ((below_alloc HB7.out (.cells #[.slice A7 n7 c7, .slice A8 n8 c8] 25)).trans (hB.mono (by have := (below_alloc HB7.out (.cells #[.slice A7 n7 c7, .slice A8 n8 c8] 25)).size; rw [World.size_alloc] at this; exact this))); have hcv := HCV.out (w8.alloc (.cells #[.slice A9 n9 c9, .slice A10 n10 c10] 25)) (below_alloc (HB26.out.trans (HB8.out.mono HB26.out.size)) _); have hbk := blk_below HBX.out (below_alloc (HB26.out.trans (HB8.out.mono HB26.out.size)) (.cells #[.slice A9 n9 c9, .slice A10 n10 c10] 25)); have hz0 : (w8.alloc (.cells #[.slice A9 n9 c9, .slice A10 n10 c10] 25)).cell? ⟨w1.heap.size + 1 + 1, 0, none⟩ = some (.slice (some ⟨w1.heap.size, 0, none⟩) 3 3) := (blk_cell hbk 0).trans rfl; have hz1 : (w8.alloc (.cells #[.slice A9 n9 c9, .slice A10 n10 c10] 25)).cell? ⟨w1.heap.size + 1 + 1, 1, none⟩ = some (.slice (some ⟨w1.heap.size + 1, 0, none⟩) 2 2) := (blk_cell hbk 1).trans rfl; have HCT := Aside0.mk (Kd.C_below HC3.out (below_alloc (HB26.out.trans (HB8.out.mono HB26.out.size)) (.cells #[.slice A9 n9 c9, .slice A10 n10 c10] 25))); have HWB := Aside0.mk (below_alloc (HB6.out.trans (HB8.out.mono HB6.out.size)) (.cells #[.slice A9 n9 c9, .slice A10 n10 c10] 25)); clear hB hbk)
        | (go_at_call 14; refine (HRa.out _).mono ?_; rintro e w7 ⟨A7, n7, c7, A8, n8, c8, rfl, hB⟩; have HB7 := Aside0.mk (HBR.out.trans (hB.mono HBR.out.size)); have kc2 := kc (w7.alloc (.cells #[.slice A7 n7 c7, .slice A8 n8 c8] 25)) #[.int .u8 88, .int .u8 82, .int .u8 0, .int .u8 1, .int .u8 2, .int .u8 0, .int .u8 1]; rw [World.size_alloc] at kc2; clear hB)
        | (go_at_call 19; refine (textR2 _ _ _ rfl (HLW.out.below (below_alloc HWB9.out (.cells #[.int .i64 0, .int .i64 0, .int .i64 2, .int .i64 3] 41))) (C41 rfl (by omega) (blk_new w9 (.cells #[.int .i64 0, .int .i64 0, .int .i64 2, .int .i64 3] 41)))).mono ?_; rintro e w10 ⟨rfl, hB⟩; have HW10 := Aside0.mk ((below_alloc HWB9.out (.cells #[.int .i64 0, .int .i64 0, .int .i64 2, .int .i64 3] 41)).trans (hB.mono (below_alloc HWB9.out (.cells #[.int .i64 0, .int .i64 0, .int .i64 2, .int .i64 3] 41)).size)); clear hB)
        | (go_at_call 19; refine (textR3 _ _ _ rfl (HLW.out.below HWB.out) HCT.out).mono ?_; rintro e w9 ⟨rfl, hB⟩; have HWB9 := Aside0.mk (HWB.out.trans (hB.mono HWB.out.size)); clear hB))
      go_ret
      exact ⟨rfl, HW10.out⟩
end Go.Proofs.YtckmgoeflecpgaaDoor.H
