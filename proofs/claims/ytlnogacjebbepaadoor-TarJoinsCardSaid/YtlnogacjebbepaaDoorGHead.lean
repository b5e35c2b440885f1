/- tar.head, walked by hand. -/
import Derived.Test.YtlnogacjebbepaaDoorHeadL
import Derived.Test.YtlnogacjebbepaaDoorEPut2
import Derived.Deep.RegionLaw
import Derived.Deep.AppendLies
namespace Go.Proofs.YtlnogacjebbepaaDoor.G
set_option linter.unusedVariables false
set_option linter.unusedSimpArgs false
open Go.RowKit Go.Proofs.YtlnogacjebbepaaDoor.P Go.Proofs.YtlnogacjebbepaaDoor.H Go.Proofs.YtlnogacjebbepaaDoorW.PrintWords Go.Proofs.YtlnogacjebbepaaDoorW.PrintLast Go.Proofs.YtlnogacjebbepaaDoorW.PrintMore
theorem vals_at (H : List Int) (i : Nat) (h : i < H.length) : (vals H).toArray[i]? = some (.int .u8 (H.getD i 0)) := by
  rw [List.getElem?_toArray]
  unfold vals
  rw [List.getElem?_map, List.getElem?_eq_getElem h, List.getD_eq_getElem?_getD, List.getElem?_eq_getElem h]
  rfl
theorem vals_set (H : List Int) (i : Nat) (x : Int) : (vals H).toArray.setIfInBounds i (.int .u8 x) = (vals (H.set i x)).toArray := by
  unfold vals
  rw [List.setIfInBounds_toArray, List.map_set]
theorem copy_magic (W : World) (g : Nat) (H : List Int) (hH : H.length = 512) (hg : W.heap[g]? = some (.cells (vals H).toArray 5 (0, 0))) : (Builtin.copy_ #[25, 9] 3 #[.slice (some ⟨g, 257, none⟩) 255 255, .string ⟨#[117, 115, 116, 97, 114, 0, 48, 48]⟩]).run Tryd.prog W = .ok (goInt 8) (W.setRow g (vals (putL H 257 magicL)).toArray) := by
  have h := Lib.run_copy_row_string (P := Tryd.prog) W 25 9 3 5 g 257 255 255 ⟨#[117, 115, 116, 97, 114, 0, 48, 48]⟩ (vals H).toArray 5 Tryd.underlying25 (by kernel_rfl) hg (by decide) (by show 257 + 8 ≤ _; simp [vals]; omega)
  rw [vals_put] at h
  exact h
theorem splice_put (H : List Int) (k : Nat) (O : List Int) : splice (vals H) k (vals O) = vals (putL H k O) := by
  unfold splice vals putL
  rw [List.map_append, List.map_append, List.map_take, List.map_drop, List.length_map, List.append_assoc]
/-- A row of the call's own put into another, as a step of a region. -/
theorem step_put {ops : Array Oper} {o : Oper} {a : Act} {W : World} {K : Act → World → Prop} {Q : Exit → Act → World → Prop} {E : Prop} (hgd : o.guard = none) (d s : Operand)
    (ho : o.op = .call { callee := .builtin .copy, args := #[d, s], argTypes := #[25, 25] }) (g k dl dc : Nat) (A7 : Option Addr) (c7 : Nat) (O H : List Int)
    (hd : a.eval d = .slice (some ⟨g, k, none⟩) dl dc) (hs : a.eval s = .slice A7 O.length c7) (hg : W.heap[g]? = some (.cells (vals H).toArray 5 (0, 0))) (hO : Kd.C (Kd.int .u8) W A7 O.length O)
    (hle : O.length ≤ dl) (hfit : k + O.length ≤ H.length)
    (h : ∀ w', w'.heap[g]? = some (.cells (vals (putL H k O)).toArray 5 (0, 0)) → Below g W w' → K (a.put o.dst (goInt O.length)) w') :
    if Region.wanted o (yielded ops a.tmps) = true then Oper.wp Tryd.prog o a W K Q else E := by
  have hl : (vals O).length = O.length := by simp [vals]
  have hrd := Kd.reads_of_C (enc := Value.int .u8) (d := (0 : Int)) (h1 := fun _ => rfl) hO
  refine step_copy_splice hgd d s 25 25 ho 5 Tryd.underlying25 (by kernel_rfl) (some ⟨g, k, none⟩) A7 dl dc O.length c7 hd hs g k (vals H) 5 hg (vals O) (by rw [hl]; exact (Nat.min_eq_left hle).symm) (fun hp => ⟨rfl, ?_⟩) (by rw [hl]; simpa [vals] using hfit) (fun v hv => ?_) g W (Below.refl _ _) (Nat.le_refl _) (fun w' hg' hb' => ?_)
  · obtain ⟨ad, e, hc⟩ := hrd.2.2 (by omega)
    refine ⟨ad, e, fun j v hj => ?_⟩
    have hj2 : j < O.length := by
      rw [← hl]
      exact (List.getElem?_eq_some_iff.1 hj).1
    rw [hc j hj2]
    unfold vals at hj
    rw [List.getElem?_map, List.getElem?_eq_getElem hj2] at hj
    rw [← Option.some.inj hj, List.getD_eq_getElem?_getD, List.getElem?_eq_getElem hj2]
    rfl
  · unfold vals at hv
    obtain ⟨x, _, rfl⟩ := List.mem_map.1 hv
    rfl
  · rw [hl]
    rw [splice_put] at hg'
    exact h w' hg' hb'
theorem own_C {W : World} {base c : Nat} {A : Option Addr} {xs : List Int} {x : Int} (h : W.ownsRow base 5 1 (.slice A (xs.length + 1) c) (xs.length + 1) (encs (Value.int .u8) xs ++ [.int .u8 x])) : Kd.C (Kd.int .u8) W A (xs ++ [x]).length (xs ++ [x]) := by
  have e : encs (Value.int .u8) xs ++ [.int .u8 x] = encs (Value.int .u8) (xs ++ [x]) := by simp [encs]
  have l : xs.length + 1 = (xs ++ [x]).length := by simp
  rw [e, l] at h
  exact (Kd.R_reads' (Kd.R_of_own (enc := Value.int .u8) (h1 := fun _ => rfl) (ok := fun _ => True) h (fun _ _ => trivial))).2.2
/-- A blank behind a row of the call's own, as a step of a region. -/
theorem step_app32 {ops : Array Oper} {o : Oper} {a : Act} {W : World} {K : Act → World → Prop} {Q : Exit → Act → World → Prop} {E : Prop} (hgd : o.guard = none) (s x : Operand)
    (ho : o.op = .call { callee := .builtin .append, args := #[s, x], argTypes := #[25, 25] }) (A : Option Addr) (c base q : Nat) (xs : List Int)
    (hs : a.eval s = .slice A xs.length c) (hx : a.eval x = .slice (some ⟨q, 0, none⟩) 1 1) (hown : W.ownsRow base 5 1 (.slice A xs.length c) xs.length (encs (Value.int .u8) xs)) (hn : xs.length ≤ 100)
    (hlit : W.heap[q]? = some (.cells #[.int .u8 32] 5 (0, 0))) (hb : base ≤ W.heap.size)
    (h : ∀ A' c' W', Kd.C (Kd.int .u8) W' A' (xs ++ [32]).length (xs ++ [32]) ∧ (xs ++ [32]).length ≤ c' → Below base W W' → K (a.put o.dst (.slice A' (xs ++ [32]).length c')) W') :
    if Region.wanted o (yielded ops a.tmps) = true then Oper.wp Tryd.prog o a W K Q else E := by
  obtain ⟨i5, hi, hz0, hz1, hz2⟩ := info_parts P.info5
  refine step_append_lies W hgd s x 25 ho base 5 i5 (.int .u8 0) 1 1 Tryd.underlying25 hi hz0 hz1 hz2 rfl (by decide) _ _ _ hs hown ⟨q, 0, none⟩ 1 1 [.int .u8 32] hx rfl (World.news_of_block hlit) (by simp [Value.oneCell']) (by decide) (by unfold maxLen; omega) (by omega) hb _ rfl ?_
  intro g cap w' h1 h2 h3 h4
  have l : (xs ++ [(32 : Int)]).length = xs.length + 1 := by simp
  have := h (some ⟨g, 0, none⟩) cap w' ⟨own_C h1, by rw [l]; exact own_le h1⟩ ⟨h2.os, h2.tape, h2.output, h2.size, fun k hk => h2.block k (by omega) (fun he => by have := own_base hown k he.symm; omega)⟩
  rw [l] at this
  exact this
set_option maxHeartbeats 8000000 in
set_option maxRecDepth 100000 in
theorem head_walk (s : ByteArray) (dir : Bool) (A : Option Addr) (n c : Nat) (w : World) (hs : s.size ≤ 99) (hn : n ≤ 9223372036854775807) :
    Calls Tryd.prog 19 #[.agg #[.string s, .bool dir, .slice A n c]] w fun e w' => ∃ g, e = .returned (.slice (some ⟨g, 0, none⟩) 512 512) ∧ w.heap.size ≤ g ∧ w'.heap[g]? = some (.cells (vals (headL s dir n)).toArray 5 (0, 0)) ∧ Below w.heap.size w w' := by
  have hinf : (Tryd.prog.info? 5).map (fun i => (i.zero, i.size, i.bytes)) = some (some (.int .u8 0), 1, 1) := by kernel_rfl
  have hmk : ∀ W : World, (Instr.makeSlice 25 (.int .i64 512) (.int .i64 512)).run Tryd.prog W = .ok (.slice (some ⟨W.heap.size, 0, none⟩) 512 512) (W.alloc (.cells (madeCells #[.int .u8 0] 512) 5)) := fun W => run_make_row' (P := Tryd.prog) 25 5 (.int .u8 0) 1 Tryd.underlying25 hinf rfl .i64 .i64 512 (by omega) (by omega) W
  have hcp0 : ∀ (W : World) (g : Nat), W.heap[g]? = some (.cells (madeCells #[.int .u8 0] 512) 5 (0, 0)) → (Builtin.copy_ #[25, 9] 3 #[.slice (some ⟨g, 0, none⟩) 512 512, .string s]).run Tryd.prog W = .ok (goInt s.size) (W.setRow g (vals (putL (List.replicate 512 0) 0 (nums s))).toArray) := fun W g hg => by
    have e : madeCells #[.int .u8 0] 512 = (vals (List.replicate 512 0)).toArray := by kernel_rfl
    rw [e] at hg
    rw [← vals_put]
    exact Lib.run_copy_row_string W 25 9 3 5 g 0 512 512 s (vals (List.replicate 512 0)).toArray 5 Tryd.underlying25 (by kernel_rfl) hg (by omega) (by simp [vals]; omega)
  have hblk : ∀ o1 o2 : Obj, ((w.alloc o1).alloc o2).heap[w.heap.size + 1]? = some o2 := fun o1 o2 => by
    have h := blk_new (w.alloc o1) o2
    have e : (w.alloc o1).heap.size = w.heap.size + 1 := by simp
    rw [e] at h
    exact h
  have hc0 := hcp0 ((w.alloc (.cells #[.string s, .bool dir, .slice A n c] 44)).alloc (.cells (madeCells #[.int .u8 0] 512) 5)) (w.heap.size + 1) (hblk _ _)
  have hbox : ∀ R : Array Value, (((w.alloc (.cells #[.string s, .bool dir, .slice A n c] 44)).alloc (.cells (madeCells #[.int .u8 0] 512) 5)).setRow (w.heap.size + 1) R).heap[w.heap.size]? = some (.cells #[.string s, .bool dir, .slice A n c] 44) := fun R => by
    have h := (below_setRow (Below.refl (w.heap.size + 1) ((w.alloc (.cells #[.string s, .bool dir, .slice A n c] 44)).alloc (.cells (madeCells #[.int .u8 0] 512) 5))) (Nat.le_refl _) R).block w.heap.size (by omega)
    exact h.trans (blk_alloc (blk_new w _) _)
  have hrow : ∀ R : Array Value, (((w.alloc (.cells #[.string s, .bool dir, .slice A n c] 44)).alloc (.cells (madeCells #[.int .u8 0] 512) 5)).setRow (w.heap.size + 1) R).heap[w.heap.size + 1]? = some (.cells R 5) := fun R => setRow_heap _ _ _ _ _ _ (hblk _ _)
  have hbel : ∀ R : Array Value, Below w.heap.size w (((w.alloc (.cells #[.string s, .bool dir, .slice A n c] 44)).alloc (.cells (madeCells #[.int .u8 0] 512) 5)).setRow (w.heap.size + 1) R) := fun R => below_setRow (below_alloc (below_alloc (Below.refl _ _) _) _) (by omega) R
  have hx1 := fun R => blk_cell (hbox R) 1
  have hx2 := fun R => blk_cell (hbox R) 2
  simp only [List.getElem?_toArray, List.getElem?_cons_zero, List.getElem?_cons_succ] at hx1 hx2
  clear hcp0 hblk
  have hl1 : (putL (List.replicate 512 0) 0 (H.nums s)).length = 512 := by
    have : (H.nums s).length = s.size := by simp only [H.nums, List.length_map, Array.length_toList]; rfl
    rw [putL_len (by simp; omega)]; simp
  generalize hH1 : putL (List.replicate 512 0) 0 (H.nums s) = H1 at hc0 hl1
  have HH1 := Aside0.mk hH1
  clear hH1
  cases dir
  · go_enter Tryd.func19, Tryd.ntmps19
    go_wp2_with fail
    have k6 := Aside0.mk (hrow (vals H1).toArray)
    have b6 := Aside0.mk (hbox (vals H1).toArray)
    have B6 := Aside0.mk (hbel (vals H1).toArray)
    generalize (World.setRow _ _ _) = W6 at k6 b6 B6 ⊢
    clear hrow hbox hbel hx1 hx2 hc0 hmk
    obtain ⟨ko7, hko7⟩ := (oct_ev (420) 7 (by omega)).rounds
    have HK7 := Aside0.mk hko7
    clear hko7
    go_region_law (first
      | (refine goes_ (f := 26) (N := some 16) Tryd.func26 (by kernel_rfl) rfl #[.int .i64 (420), .int .i64 7] rfl rfl rfl ?harg ?_; (case harg => (simp only [List.map_toArray, List.map_cons, List.map_nil]; rfl)); refine (tar_octal.calls ko7 (420) 7 (octV (420) 7) _ HK7.out).mono ?_; rintro e V7 ⟨v7, rfl, hR7, hB7⟩; refine ⟨_, rfl, ?_⟩; obtain ⟨A7, c7, rfl⟩ := Kd.R_slice hR7; have HR7 := Aside0.mk hR7; have HB7 := Aside0.mk hB7; clear hR7 hB7)
      | (refine step_put rfl (.tmp 14) (.tmp 16) rfl (w.heap.size + 1) 100 412 412 A7 c7 (octV (420) 7) H1 rfl rfl ?hg7 (Kd.R_reads' HR7.out).2.2 (by rw [octV_len]; omega) (by rw [octV_len]; omega) ?_; (case hg7 => exact (HB7.out.block _ (blk_lt k6.out)).trans k6.out); intro W7 hg8 hb8; have K7 := Aside0.mk hg8; have b8 := Aside0.mk hb8; clear hg8 hb8))
    all_goals
      have BX7 := Aside0.mk ((b8.out.block _ (Nat.lt_succ_self _)).trans ((HB7.out.block _ (blk_lt b6.out)).trans b6.out))
      have BE7 := Aside0.mk (((below_drew B6.out).trans (HB7.out.mono B6.out.size)).trans (b8.out.mono (Nat.le_succ _)))
      clear b8 HB7 HR7 k6 b6 B6 HK7
      have hl7 : (putL H1 100 (octV (420) 7)).length = 512 := by rw [putL_len (by rw [octV_len]; omega)]; omega
      generalize hH7 : putL H1 100 (octV (420) 7) = H7 at K7 hl7
      have HH7 := Aside0.mk hH7
      clear hH7
      go_wp2_with fail
      obtain ⟨ko8, hko8⟩ := (oct_ev (0) 7 (by omega)).rounds
      have HK8 := Aside0.mk hko8
      clear hko8
      go_region_law (first
        | (refine goes_ (f := 26) (N := some 20) Tryd.func26 (by kernel_rfl) rfl #[.int .i64 (0), .int .i64 7] rfl rfl rfl ?harg ?_; (case harg => (simp only [List.map_toArray, List.map_cons, List.map_nil]; rfl)); refine (tar_octal.calls ko8 (0) 7 (octV (0) 7) _ HK8.out).mono ?_; rintro e V8 ⟨v8, rfl, hR8, hB8⟩; refine ⟨_, rfl, ?_⟩; obtain ⟨A8, c8, rfl⟩ := Kd.R_slice hR8; have HR8 := Aside0.mk hR8; have HB8 := Aside0.mk hB8; clear hR8 hB8)
        | (refine step_put rfl (.tmp 19) (.tmp 20) rfl (w.heap.size + 1) 108 404 404 A8 c8 (octV (0) 7) H7 rfl rfl ?hg7 (Kd.R_reads' HR8.out).2.2 (by rw [octV_len]; omega) (by rw [octV_len]; omega) ?_; (case hg7 => exact (HB8.out.block _ (blk_lt K7.out)).trans K7.out); intro W8 hg8 hb8; have K8 := Aside0.mk hg8; have b8 := Aside0.mk hb8; clear hg8 hb8))
      all_goals
        have BX8 := Aside0.mk ((b8.out.block _ (Nat.lt_succ_self _)).trans ((HB8.out.block _ (blk_lt BX7.out)).trans BX7.out))
        have BE8 := Aside0.mk (((below_drew BE7.out).trans (HB8.out.mono BE7.out.size)).trans (b8.out.mono (Nat.le_succ _)))
        clear b8 HB8 HR8 K7 BX7 BE7 HK8
        have hl8 : (putL H7 108 (octV (0) 7)).length = 512 := by rw [putL_len (by rw [octV_len]; omega)]; omega
        generalize hH8 : putL H7 108 (octV (0) 7) = H8 at K8 hl8
        have HH8 := Aside0.mk hH8
        clear hH8
        go_wp2_with fail
        obtain ⟨ko9, hko9⟩ := (oct_ev (0) 7 (by omega)).rounds
        have HK9 := Aside0.mk hko9
        clear hko9
        go_region_law (first
          | (refine goes_ (f := 26) (N := some 24) Tryd.func26 (by kernel_rfl) rfl #[.int .i64 (0), .int .i64 7] rfl rfl rfl ?harg ?_; (case harg => (simp only [List.map_toArray, List.map_cons, List.map_nil]; rfl)); refine (tar_octal.calls ko9 (0) 7 (octV (0) 7) _ HK9.out).mono ?_; rintro e V9 ⟨v9, rfl, hR9, hB9⟩; refine ⟨_, rfl, ?_⟩; obtain ⟨A9, c9, rfl⟩ := Kd.R_slice hR9; have HR9 := Aside0.mk hR9; have HB9 := Aside0.mk hB9; clear hR9 hB9)
          | (refine step_put rfl (.tmp 23) (.tmp 24) rfl (w.heap.size + 1) 116 396 396 A9 c9 (octV (0) 7) H8 rfl rfl ?hg7 (Kd.R_reads' HR9.out).2.2 (by rw [octV_len]; omega) (by rw [octV_len]; omega) ?_; (case hg7 => exact (HB9.out.block _ (blk_lt K8.out)).trans K8.out); intro W9 hg8 hb8; have K9 := Aside0.mk hg8; have b8 := Aside0.mk hb8; clear hg8 hb8))
        all_goals
          have BX9 := Aside0.mk ((b8.out.block _ (Nat.lt_succ_self _)).trans ((HB9.out.block _ (blk_lt BX8.out)).trans BX8.out))
          have BE9 := Aside0.mk (((below_drew BE8.out).trans (HB9.out.mono BE8.out.size)).trans (b8.out.mono (Nat.le_succ _)))
          clear b8 HB9 HR9 K8 BX8 BE8 HK9
          have hl9 : (putL H8 116 (octV (0) 7)).length = 512 := by rw [putL_len (by rw [octV_len]; omega)]; omega
          generalize hH9 : putL H8 116 (octV (0) 7) = H9 at K9 hl9
          have HH9 := Aside0.mk hH9
          clear hH9
          go_wp2_with fail
          have z2 := blk_cell BX9.out 2
          have z2d := blk_cell (blk_drew BX9.out) 2
          simp only [List.getElem?_toArray, List.getElem?_cons_zero, List.getElem?_cons_succ] at z2 z2d
          obtain ⟨ko10, hko10⟩ := (oct_ev ((n : Int)) 11 (by omega)).rounds
          have HK10 := Aside0.mk hko10
          clear hko10
          go_region_law (first
            | (refine goes_ (f := 26) (N := some 31) Tryd.func26 (by kernel_rfl) rfl #[.int .i64 ((n : Int)), .int .i64 11] rfl rfl rfl ?harg ?_; (case harg => (simp only [List.map_toArray, List.map_cons, List.map_nil]; rfl)); refine (tar_octal.calls ko10 ((n : Int)) 11 (octV ((n : Int)) 11) _ HK10.out).mono ?_; rintro e V10 ⟨v10, rfl, hR10, hB10⟩; refine ⟨_, rfl, ?_⟩; obtain ⟨A10, c10, rfl⟩ := Kd.R_slice hR10; have HR10 := Aside0.mk hR10; have HB10 := Aside0.mk hB10; clear hR10 hB10)
            | (refine step_put rfl (.tmp 27) (.tmp 31) rfl (w.heap.size + 1) 124 388 388 A10 c10 (octV ((n : Int)) 11) H9 rfl rfl ?hg7 (Kd.R_reads' HR10.out).2.2 (by rw [octV_len]; omega) (by rw [octV_len]; omega) ?_; (case hg7 => exact (HB10.out.block _ (blk_lt K9.out)).trans K9.out); intro W10 hg8 hb8; have K10 := Aside0.mk hg8; have b8 := Aside0.mk hb8; clear hg8 hb8))
          all_goals
            have BX10 := Aside0.mk ((b8.out.block _ (Nat.lt_succ_self _)).trans ((HB10.out.block _ (blk_lt BX9.out)).trans BX9.out))
            have BE10 := Aside0.mk (((below_drew BE9.out).trans (HB10.out.mono BE9.out.size)).trans (b8.out.mono (Nat.le_succ _)))
            clear b8 HB10 HR10 K9 BX9 BE9 HK10
            have hl10 : (putL H9 124 (octV ((n : Int)) 11)).length = 512 := by rw [putL_len (by rw [octV_len]; omega)]; omega
            generalize hH10 : putL H9 124 (octV ((n : Int)) 11) = H10 at K10 hl10
            have HH10 := Aside0.mk hH10
            clear hH10
            go_wp2_with fail
            obtain ⟨ko11, hko11⟩ := (oct_ev (0) 11 (by omega)).rounds
            have HK11 := Aside0.mk hko11
            clear hko11
            go_region_law (first
              | (refine goes_ (f := 26) (N := some 35) Tryd.func26 (by kernel_rfl) rfl #[.int .i64 (0), .int .i64 11] rfl rfl rfl ?harg ?_; (case harg => (simp only [List.map_toArray, List.map_cons, List.map_nil]; rfl)); refine (tar_octal.calls ko11 (0) 11 (octV (0) 11) _ HK11.out).mono ?_; rintro e V11 ⟨v11, rfl, hR11, hB11⟩; refine ⟨_, rfl, ?_⟩; obtain ⟨A11, c11, rfl⟩ := Kd.R_slice hR11; have HR11 := Aside0.mk hR11; have HB11 := Aside0.mk hB11; clear hR11 hB11)
              | (refine step_put rfl (.tmp 34) (.tmp 35) rfl (w.heap.size + 1) 136 376 376 A11 c11 (octV (0) 11) H10 rfl rfl ?hg7 (Kd.R_reads' HR11.out).2.2 (by rw [octV_len]; omega) (by rw [octV_len]; omega) ?_; (case hg7 => exact (HB11.out.block _ (blk_lt K10.out)).trans K10.out); intro W11 hg8 hb8; have K11 := Aside0.mk hg8; have b8 := Aside0.mk hb8; clear hg8 hb8))
            all_goals
              have BX11 := Aside0.mk ((b8.out.block _ (Nat.lt_succ_self _)).trans ((HB11.out.block _ (blk_lt BX10.out)).trans BX10.out))
              have BE11 := Aside0.mk (((below_drew BE10.out).trans (HB11.out.mono BE10.out.size)).trans (b8.out.mono (Nat.le_succ _)))
              clear b8 HB11 HR11 K10 BX10 BE10 HK11
              have hl11 : (putL H10 136 (octV (0) 11)).length = 512 := by rw [putL_len (by rw [octV_len]; omega)]; omega
              generalize hH11 : putL H10 136 (octV (0) 11) = H11 at K11 hl11
              have HH11 := Aside0.mk hH11
              clear hH11
              have q156 : W11.cell? ⟨w.heap.size + 1, 156, none⟩ = some (.int .u8 (H11.getD 156 0)) := (blk_cell K11.out 156).trans (vals_at H11 156 (by omega))
              have f156 := blk_frozen K11.out 156
              have hcp := copy_magic (W11.setCell ⟨w.heap.size + 1, 156, none⟩ (.int .u8 48)) (w.heap.size + 1) (H11.set 156 48) (by rw [List.length_set]; exact hl11) ((blk_set K11.out 156 _).trans (by rw [vals_set]))
              go_wp2_with fail
              have K12 : Aside0 ((World.setRow (W11.setCell ⟨w.heap.size + 1, 156, none⟩ (.int .u8 48)) (w.heap.size + 1) (vals (putL (H11.set 156 48) 257 magicL)).toArray).heap[w.heap.size + 1]? = some (.cells (vals (putL (H11.set 156 48) 257 magicL)).toArray 5 (0, 0))) := ⟨setRow_heap _ _ _ _ _ _ (blk_set K11.out 156 _)⟩
              have BE12 := Aside0.mk (below_setRow (below_set (g := w.heap.size + 1) (j := 156) (v := .int .u8 48) BE11.out (Nat.le_succ _)) (Nat.le_succ w.heap.size) (vals (putL (H11.set 156 48) 257 magicL)).toArray)
              generalize (World.setRow _ _ _) = W12 at K12 BE12 ⊢
              have hl12 : (putL (H11.set 156 48) 257 magicL).length = 512 := by rw [putL_len (by rw [List.length_set]; show 257 + 8 ≤ _; omega), List.length_set]; exact hl11
              generalize hH12 : putL (H11.set 156 48) 257 magicL = H12 at K12 hl12
              have HH12 := Aside0.mk hH12
              clear hH12 hcp q156 f156 K11 BE11
              have HS := Aside0.mk (sum_block H12 hl12)
              obtain ⟨ks, hks⟩ := (oct_ev (sumV H12) 6 (by omega)).rounds
              have HKS := Aside0.mk hks
              have HZ := Aside0.mk (show w.heap.size + 2 ≤ W12.heap.size from blk_lt K12.out)
              clear hks
              go_region_law (first
                | (refine goes_ (f := 15) (N := some 46) Tryd.func15 (by kernel_rfl) rfl #[.slice (some ⟨w.heap.size + 1, 0, none⟩) 512 512] rfl rfl rfl ?harg ?_; (case harg => (simp only [List.map_toArray, List.map_cons, List.map_nil]; rfl)); refine (HS.out _ _ (by first | exact K12.out | exact blk_drew K12.out | exact blk_alloc (blk_drew K12.out) _)).mono ?_; rintro e V12 ⟨rfl, ⟨⟨q12, rfl⟩⟩⟩; refine ⟨_, rfl, ?_⟩)
                | (refine goes_ (f := 26) (N := some 47) Tryd.func26 (by kernel_rfl) rfl #[.int .i64 (sumV H12), .int .i64 6] rfl rfl rfl ?harg ?_; (case harg => (simp only [List.map_toArray, List.map_cons, List.map_nil]; rfl)); refine (tar_octal.calls ks (sumV H12) 6 (octV (sumV H12) 6) _ HKS.out).mono ?_; rintro e V13 ⟨v13, rfl, hR13, hB13⟩; refine ⟨_, rfl, ?_⟩; obtain ⟨A13, c13, rfl⟩ := Kd.R_slice hR13; have HR13 := Aside0.mk hR13; have HB13 := Aside0.mk hB13; have KV13 := Aside0.mk ((hB13.block (w.heap.size + 1) (by have hz_ := HZ.out; simp; omega)).trans (by first | exact K12.out | exact blk_alloc (w := W12) K12.out _)); have BE13 := Aside0.mk (Below.trans (by repeat (first | exact BE12.out | apply below_alloc | apply pw_below_drewN | apply below_drew)) (hB13.mono (by have hz_ := HZ.out; simp; omega)) : Below w.heap.size w V13); clear hR13 hB13)
                | (refine step_app32 rfl (.tmp 47) (.tmp 48) rfl A13 c13 (w.heap.size + 2) _ (octV (sumV H12) 6) rfl rfl ?hown (by rw [octV_len]; omega) ?hlit ?hbase ?_; (case hown => first | exact own_weaken (Kd.own_of_R HR13.out) (by have hz_ := HZ.out; simp; omega) | exact (own_weaken (Kd.own_of_R HR13.out) (by have hz_ := HZ.out; simp; omega)).alloc _); (case hlit => first | exact blk_new _ _ | exact (HB13.out.block _ (by simp)).trans (blk_new _ _) | exact (HB13.out.block _ (by simp)).trans (blk_drewN (blk_new _ _) _)); (case hbase => have hs_ := HB13.out.size; have hz_ := HZ.out; simp at hs_ ⊢; omega); rintro A14 c14 W14 ⟨hC14, _⟩ hB14; have HC14 := Aside0.mk hC14; have HB14 := Aside0.mk hB14; clear hC14 hB14)
                | (refine step_put rfl (.tmp 44) (.tmp 49) rfl (w.heap.size + 1) 148 364 364 A14 c14 (octV (sumV H12) 6 ++ [32]) H12 rfl rfl ?hg7 HC14.out (by rw [List.length_append, octV_len]; show 7 + 1 ≤ 364; omega) (by rw [List.length_append, octV_len]; show 148 + (7 + 1) ≤ _; omega) ?_; (case hg7 => exact (HB14.out.block _ (by omega)).trans (by first | exact KV13.out | exact blk_alloc KV13.out _)); intro W15 hg8 hb8; have K15 := Aside0.mk hg8; have b8 := Aside0.mk hb8; clear hg8 hb8))
              all_goals
                all_goals
                  have BE14 : Below w.heap.size w W14 := by first | exact BE13.out.trans (HB14.out.mono (by omega)) | exact (below_alloc BE13.out _).trans (HB14.out.mono (by omega))
                  have BE15 := Aside0.mk (BE14.trans (b8.out.mono (Nat.le_succ _)))
                  go_wp2_with fail
                  go_ret
                  refine ⟨w.heap.size + 1, rfl, Nat.le_succ _, ?_, BE15.out⟩
                  rw [K15.out, ← HH12.out, ← HH11.out, ← HH10.out, ← HH9.out, ← HH8.out, ← HH7.out, ← HH1.out]
                  rfl
  · go_enter Tryd.func19, Tryd.ntmps19
    go_wp2_with fail
    have k6 := Aside0.mk (hrow (vals H1).toArray)
    have b6 := Aside0.mk (hbox (vals H1).toArray)
    have B6 := Aside0.mk (hbel (vals H1).toArray)
    generalize (World.setRow _ _ _) = W6 at k6 b6 B6 ⊢
    clear hrow hbox hbel hx1 hx2 hc0 hmk
    obtain ⟨ko7, hko7⟩ := (oct_ev (493) 7 (by omega)).rounds
    have HK7 := Aside0.mk hko7
    clear hko7
    go_region_law (first
      | (refine goes_ (f := 26) (N := some 16) Tryd.func26 (by kernel_rfl) rfl #[.int .i64 (493), .int .i64 7] rfl rfl rfl ?harg ?_; (case harg => (simp only [List.map_toArray, List.map_cons, List.map_nil]; rfl)); refine (tar_octal.calls ko7 (493) 7 (octV (493) 7) _ HK7.out).mono ?_; rintro e V7 ⟨v7, rfl, hR7, hB7⟩; refine ⟨_, rfl, ?_⟩; obtain ⟨A7, c7, rfl⟩ := Kd.R_slice hR7; have HR7 := Aside0.mk hR7; have HB7 := Aside0.mk hB7; clear hR7 hB7)
      | (refine step_put rfl (.tmp 14) (.tmp 16) rfl (w.heap.size + 1) 100 412 412 A7 c7 (octV (493) 7) H1 rfl rfl ?hg7 (Kd.R_reads' HR7.out).2.2 (by rw [octV_len]; omega) (by rw [octV_len]; omega) ?_; (case hg7 => exact (HB7.out.block _ (blk_lt k6.out)).trans k6.out); intro W7 hg8 hb8; have K7 := Aside0.mk hg8; have b8 := Aside0.mk hb8; clear hg8 hb8))
    all_goals
      have BX7 := Aside0.mk ((b8.out.block _ (Nat.lt_succ_self _)).trans ((HB7.out.block _ (blk_lt b6.out)).trans b6.out))
      have BE7 := Aside0.mk (((below_drew B6.out).trans (HB7.out.mono B6.out.size)).trans (b8.out.mono (Nat.le_succ _)))
      clear b8 HB7 HR7 k6 b6 B6 HK7
      have hl7 : (putL H1 100 (octV (493) 7)).length = 512 := by rw [putL_len (by rw [octV_len]; omega)]; omega
      generalize hH7 : putL H1 100 (octV (493) 7) = H7 at K7 hl7
      have HH7 := Aside0.mk hH7
      clear hH7
      go_wp2_with fail
      obtain ⟨ko8, hko8⟩ := (oct_ev (0) 7 (by omega)).rounds
      have HK8 := Aside0.mk hko8
      clear hko8
      go_region_law (first
        | (refine goes_ (f := 26) (N := some 20) Tryd.func26 (by kernel_rfl) rfl #[.int .i64 (0), .int .i64 7] rfl rfl rfl ?harg ?_; (case harg => (simp only [List.map_toArray, List.map_cons, List.map_nil]; rfl)); refine (tar_octal.calls ko8 (0) 7 (octV (0) 7) _ HK8.out).mono ?_; rintro e V8 ⟨v8, rfl, hR8, hB8⟩; refine ⟨_, rfl, ?_⟩; obtain ⟨A8, c8, rfl⟩ := Kd.R_slice hR8; have HR8 := Aside0.mk hR8; have HB8 := Aside0.mk hB8; clear hR8 hB8)
        | (refine step_put rfl (.tmp 19) (.tmp 20) rfl (w.heap.size + 1) 108 404 404 A8 c8 (octV (0) 7) H7 rfl rfl ?hg7 (Kd.R_reads' HR8.out).2.2 (by rw [octV_len]; omega) (by rw [octV_len]; omega) ?_; (case hg7 => exact (HB8.out.block _ (blk_lt K7.out)).trans K7.out); intro W8 hg8 hb8; have K8 := Aside0.mk hg8; have b8 := Aside0.mk hb8; clear hg8 hb8))
      all_goals
        have BX8 := Aside0.mk ((b8.out.block _ (Nat.lt_succ_self _)).trans ((HB8.out.block _ (blk_lt BX7.out)).trans BX7.out))
        have BE8 := Aside0.mk (((below_drew BE7.out).trans (HB8.out.mono BE7.out.size)).trans (b8.out.mono (Nat.le_succ _)))
        clear b8 HB8 HR8 K7 BX7 BE7 HK8
        have hl8 : (putL H7 108 (octV (0) 7)).length = 512 := by rw [putL_len (by rw [octV_len]; omega)]; omega
        generalize hH8 : putL H7 108 (octV (0) 7) = H8 at K8 hl8
        have HH8 := Aside0.mk hH8
        clear hH8
        go_wp2_with fail
        obtain ⟨ko9, hko9⟩ := (oct_ev (0) 7 (by omega)).rounds
        have HK9 := Aside0.mk hko9
        clear hko9
        go_region_law (first
          | (refine goes_ (f := 26) (N := some 24) Tryd.func26 (by kernel_rfl) rfl #[.int .i64 (0), .int .i64 7] rfl rfl rfl ?harg ?_; (case harg => (simp only [List.map_toArray, List.map_cons, List.map_nil]; rfl)); refine (tar_octal.calls ko9 (0) 7 (octV (0) 7) _ HK9.out).mono ?_; rintro e V9 ⟨v9, rfl, hR9, hB9⟩; refine ⟨_, rfl, ?_⟩; obtain ⟨A9, c9, rfl⟩ := Kd.R_slice hR9; have HR9 := Aside0.mk hR9; have HB9 := Aside0.mk hB9; clear hR9 hB9)
          | (refine step_put rfl (.tmp 23) (.tmp 24) rfl (w.heap.size + 1) 116 396 396 A9 c9 (octV (0) 7) H8 rfl rfl ?hg7 (Kd.R_reads' HR9.out).2.2 (by rw [octV_len]; omega) (by rw [octV_len]; omega) ?_; (case hg7 => exact (HB9.out.block _ (blk_lt K8.out)).trans K8.out); intro W9 hg8 hb8; have K9 := Aside0.mk hg8; have b8 := Aside0.mk hb8; clear hg8 hb8))
        all_goals
          have BX9 := Aside0.mk ((b8.out.block _ (Nat.lt_succ_self _)).trans ((HB9.out.block _ (blk_lt BX8.out)).trans BX8.out))
          have BE9 := Aside0.mk (((below_drew BE8.out).trans (HB9.out.mono BE8.out.size)).trans (b8.out.mono (Nat.le_succ _)))
          clear b8 HB9 HR9 K8 BX8 BE8 HK9
          have hl9 : (putL H8 116 (octV (0) 7)).length = 512 := by rw [putL_len (by rw [octV_len]; omega)]; omega
          generalize hH9 : putL H8 116 (octV (0) 7) = H9 at K9 hl9
          have HH9 := Aside0.mk hH9
          clear hH9
          go_wp2_with fail
          have z2 := blk_cell BX9.out 2
          have z2d := blk_cell (blk_drew BX9.out) 2
          simp only [List.getElem?_toArray, List.getElem?_cons_zero, List.getElem?_cons_succ] at z2 z2d
          obtain ⟨ko10, hko10⟩ := (oct_ev ((n : Int)) 11 (by omega)).rounds
          have HK10 := Aside0.mk hko10
          clear hko10
          go_region_law (first
            | (refine goes_ (f := 26) (N := some 31) Tryd.func26 (by kernel_rfl) rfl #[.int .i64 ((n : Int)), .int .i64 11] rfl rfl rfl ?harg ?_; (case harg => (simp only [List.map_toArray, List.map_cons, List.map_nil]; rfl)); refine (tar_octal.calls ko10 ((n : Int)) 11 (octV ((n : Int)) 11) _ HK10.out).mono ?_; rintro e V10 ⟨v10, rfl, hR10, hB10⟩; refine ⟨_, rfl, ?_⟩; obtain ⟨A10, c10, rfl⟩ := Kd.R_slice hR10; have HR10 := Aside0.mk hR10; have HB10 := Aside0.mk hB10; clear hR10 hB10)
            | (refine step_put rfl (.tmp 27) (.tmp 31) rfl (w.heap.size + 1) 124 388 388 A10 c10 (octV ((n : Int)) 11) H9 rfl rfl ?hg7 (Kd.R_reads' HR10.out).2.2 (by rw [octV_len]; omega) (by rw [octV_len]; omega) ?_; (case hg7 => exact (HB10.out.block _ (blk_lt K9.out)).trans K9.out); intro W10 hg8 hb8; have K10 := Aside0.mk hg8; have b8 := Aside0.mk hb8; clear hg8 hb8))
          all_goals
            have BX10 := Aside0.mk ((b8.out.block _ (Nat.lt_succ_self _)).trans ((HB10.out.block _ (blk_lt BX9.out)).trans BX9.out))
            have BE10 := Aside0.mk (((below_drew BE9.out).trans (HB10.out.mono BE9.out.size)).trans (b8.out.mono (Nat.le_succ _)))
            clear b8 HB10 HR10 K9 BX9 BE9 HK10
            have hl10 : (putL H9 124 (octV ((n : Int)) 11)).length = 512 := by rw [putL_len (by rw [octV_len]; omega)]; omega
            generalize hH10 : putL H9 124 (octV ((n : Int)) 11) = H10 at K10 hl10
            have HH10 := Aside0.mk hH10
            clear hH10
            go_wp2_with fail
            obtain ⟨ko11, hko11⟩ := (oct_ev (0) 11 (by omega)).rounds
            have HK11 := Aside0.mk hko11
            clear hko11
            go_region_law (first
              | (refine goes_ (f := 26) (N := some 35) Tryd.func26 (by kernel_rfl) rfl #[.int .i64 (0), .int .i64 11] rfl rfl rfl ?harg ?_; (case harg => (simp only [List.map_toArray, List.map_cons, List.map_nil]; rfl)); refine (tar_octal.calls ko11 (0) 11 (octV (0) 11) _ HK11.out).mono ?_; rintro e V11 ⟨v11, rfl, hR11, hB11⟩; refine ⟨_, rfl, ?_⟩; obtain ⟨A11, c11, rfl⟩ := Kd.R_slice hR11; have HR11 := Aside0.mk hR11; have HB11 := Aside0.mk hB11; clear hR11 hB11)
              | (refine step_put rfl (.tmp 34) (.tmp 35) rfl (w.heap.size + 1) 136 376 376 A11 c11 (octV (0) 11) H10 rfl rfl ?hg7 (Kd.R_reads' HR11.out).2.2 (by rw [octV_len]; omega) (by rw [octV_len]; omega) ?_; (case hg7 => exact (HB11.out.block _ (blk_lt K10.out)).trans K10.out); intro W11 hg8 hb8; have K11 := Aside0.mk hg8; have b8 := Aside0.mk hb8; clear hg8 hb8))
            all_goals
              have BX11 := Aside0.mk ((b8.out.block _ (Nat.lt_succ_self _)).trans ((HB11.out.block _ (blk_lt BX10.out)).trans BX10.out))
              have BE11 := Aside0.mk (((below_drew BE10.out).trans (HB11.out.mono BE10.out.size)).trans (b8.out.mono (Nat.le_succ _)))
              clear b8 HB11 HR11 K10 BX10 BE10 HK11
              have hl11 : (putL H10 136 (octV (0) 11)).length = 512 := by rw [putL_len (by rw [octV_len]; omega)]; omega
              generalize hH11 : putL H10 136 (octV (0) 11) = H11 at K11 hl11
              have HH11 := Aside0.mk hH11
              clear hH11
              have q156 : W11.cell? ⟨w.heap.size + 1, 156, none⟩ = some (.int .u8 (H11.getD 156 0)) := (blk_cell K11.out 156).trans (vals_at H11 156 (by omega))
              have f156 := blk_frozen K11.out 156
              have hcp := copy_magic (W11.setCell ⟨w.heap.size + 1, 156, none⟩ (.int .u8 53)) (w.heap.size + 1) (H11.set 156 53) (by rw [List.length_set]; exact hl11) ((blk_set K11.out 156 _).trans (by rw [vals_set]))
              go_wp2_with fail
              have K12 : Aside0 ((World.setRow (W11.setCell ⟨w.heap.size + 1, 156, none⟩ (.int .u8 53)) (w.heap.size + 1) (vals (putL (H11.set 156 53) 257 magicL)).toArray).heap[w.heap.size + 1]? = some (.cells (vals (putL (H11.set 156 53) 257 magicL)).toArray 5 (0, 0))) := ⟨setRow_heap _ _ _ _ _ _ (blk_set K11.out 156 _)⟩
              have BE12 := Aside0.mk (below_setRow (below_set (g := w.heap.size + 1) (j := 156) (v := .int .u8 53) BE11.out (Nat.le_succ _)) (Nat.le_succ w.heap.size) (vals (putL (H11.set 156 53) 257 magicL)).toArray)
              generalize (World.setRow _ _ _) = W12 at K12 BE12 ⊢
              have hl12 : (putL (H11.set 156 53) 257 magicL).length = 512 := by rw [putL_len (by rw [List.length_set]; show 257 + 8 ≤ _; omega), List.length_set]; exact hl11
              generalize hH12 : putL (H11.set 156 53) 257 magicL = H12 at K12 hl12
              have HH12 := Aside0.mk hH12
              clear hH12 hcp q156 f156 K11 BE11
              have HS := Aside0.mk (sum_block H12 hl12)
              obtain ⟨ks, hks⟩ := (oct_ev (sumV H12) 6 (by omega)).rounds
              have HKS := Aside0.mk hks
              have HZ := Aside0.mk (show w.heap.size + 2 ≤ W12.heap.size from blk_lt K12.out)
              clear hks
              go_region_law (first
                | (refine goes_ (f := 15) (N := some 46) Tryd.func15 (by kernel_rfl) rfl #[.slice (some ⟨w.heap.size + 1, 0, none⟩) 512 512] rfl rfl rfl ?harg ?_; (case harg => (simp only [List.map_toArray, List.map_cons, List.map_nil]; rfl)); refine (HS.out _ _ (by first | exact K12.out | exact blk_drew K12.out | exact blk_alloc (blk_drew K12.out) _)).mono ?_; rintro e V12 ⟨rfl, ⟨⟨q12, rfl⟩⟩⟩; refine ⟨_, rfl, ?_⟩)
                | (refine goes_ (f := 26) (N := some 47) Tryd.func26 (by kernel_rfl) rfl #[.int .i64 (sumV H12), .int .i64 6] rfl rfl rfl ?harg ?_; (case harg => (simp only [List.map_toArray, List.map_cons, List.map_nil]; rfl)); refine (tar_octal.calls ks (sumV H12) 6 (octV (sumV H12) 6) _ HKS.out).mono ?_; rintro e V13 ⟨v13, rfl, hR13, hB13⟩; refine ⟨_, rfl, ?_⟩; obtain ⟨A13, c13, rfl⟩ := Kd.R_slice hR13; have HR13 := Aside0.mk hR13; have HB13 := Aside0.mk hB13; have KV13 := Aside0.mk ((hB13.block (w.heap.size + 1) (by have hz_ := HZ.out; simp; omega)).trans (by first | exact K12.out | exact blk_alloc (w := W12) K12.out _)); have BE13 := Aside0.mk (Below.trans (by repeat (first | exact BE12.out | apply below_alloc | apply pw_below_drewN | apply below_drew)) (hB13.mono (by have hz_ := HZ.out; simp; omega)) : Below w.heap.size w V13); clear hR13 hB13)
                | (refine step_app32 rfl (.tmp 47) (.tmp 48) rfl A13 c13 (w.heap.size + 2) _ (octV (sumV H12) 6) rfl rfl ?hown (by rw [octV_len]; omega) ?hlit ?hbase ?_; (case hown => first | exact own_weaken (Kd.own_of_R HR13.out) (by have hz_ := HZ.out; simp; omega) | exact (own_weaken (Kd.own_of_R HR13.out) (by have hz_ := HZ.out; simp; omega)).alloc _); (case hlit => first | exact blk_new _ _ | exact (HB13.out.block _ (by simp)).trans (blk_new _ _) | exact (HB13.out.block _ (by simp)).trans (blk_drewN (blk_new _ _) _)); (case hbase => have hs_ := HB13.out.size; have hz_ := HZ.out; simp at hs_ ⊢; omega); rintro A14 c14 W14 ⟨hC14, _⟩ hB14; have HC14 := Aside0.mk hC14; have HB14 := Aside0.mk hB14; clear hC14 hB14)
                | (refine step_put rfl (.tmp 44) (.tmp 49) rfl (w.heap.size + 1) 148 364 364 A14 c14 (octV (sumV H12) 6 ++ [32]) H12 rfl rfl ?hg7 HC14.out (by rw [List.length_append, octV_len]; show 7 + 1 ≤ 364; omega) (by rw [List.length_append, octV_len]; show 148 + (7 + 1) ≤ _; omega) ?_; (case hg7 => exact (HB14.out.block _ (by omega)).trans (by first | exact KV13.out | exact blk_alloc KV13.out _)); intro W15 hg8 hb8; have K15 := Aside0.mk hg8; have b8 := Aside0.mk hb8; clear hg8 hb8))
              all_goals
                all_goals
                  have BE14 : Below w.heap.size w W14 := by first | exact BE13.out.trans (HB14.out.mono (by omega)) | exact (below_alloc BE13.out _).trans (HB14.out.mono (by omega))
                  have BE15 := Aside0.mk (BE14.trans (b8.out.mono (Nat.le_succ _)))
                  go_wp2_with fail
                  go_ret
                  refine ⟨w.heap.size + 1, rfl, Nat.le_succ _, ?_, BE15.out⟩
                  rw [K15.out, ← HH12.out, ← HH11.out, ← HH10.out, ← HH9.out, ← HH8.out, ← HH7.out, ← HH1.out]
                  rfl
def tar_head.f (a0 : ByteArray) (a1 : Bool) (l2 : List Int) : Option (List Int) := if a0.size ≤ 99 then (if l2.length ≤ 9223372036854775807 then some (headL a0 a1 (l2.length : Int)) else none) else none
theorem tar_head.calls (a0 : ByteArray) (a1 : Bool) (A2 : Option Addr) (c2 : Nat) (l2 : List Int) (r : List Int) (w : World) (hr0 : Kd.C (Kd.int .u8) w A2 l2.length l2) (hc0 : l2.length ≤ c2) (h : tar_head.f a0 a1 l2 = some r) :
    Calls Tryd.prog 19 #[.agg #[.string a0, .bool a1, .slice A2 l2.length c2]] w fun e w' => ∃ v0_ : Value, e = .returned (v0_) ∧ Kd.R (Kd.int .u8) 5 w' w.heap.size (fun _ => True) v0_ r ∧ Below w.heap.size w w' := by
  unfold tar_head.f at h
  by_cases h1 : a0.size ≤ 99
  · rw [if_pos h1] at h
    by_cases h2 : l2.length ≤ 9223372036854775807
    · rw [if_pos h2] at h
      obtain rfl := Option.some.inj h
      refine (head_walk a0 a1 A2 l2.length c2 w h1 h2).mono ?_
      rintro e w' ⟨g, rfl, hg, hb, hB⟩
      have hl : (headL a0 a1 (l2.length : Int)).length = 512 := headL_len a0 a1 _ h1
      generalize headL a0 a1 (l2.length : Int) = L at hl hb ⊢
      exact ⟨_, rfl, R_block hl hg hb, hB⟩
    · rw [if_neg h2] at h; cases h
  · rw [if_neg h1] at h; cases h
end Go.Proofs.YtlnogacjebbepaaDoor.G
