/- The reference's Bytes, walked. -/
import Derived.Test.YtckmgoeflecpgaaDoorProgE
namespace Go.Proofs.YtckmgoeflecpgaaDoor.G
set_option linter.unusedVariables false
set_option linter.unusedSimpArgs false
open Go.RowKit Go.Proofs.YtckmgoeflecpgaaDoor.L Go.Proofs.YtckmgoeflecpgaaDoor.I Go.Proofs.YtckmgoeflecpgaaDoor.P Go.Proofs.YtckmgoeflecpgaaDoorW.PrintWords Go.Proofs.YtckmgoeflecpgaaDoorW.PrintLast Go.Proofs.YtckmgoeflecpgaaDoorW.PrintMore
/-- A string's bytes appended, one step of a region that draws. -/
theorem step_append_strR {P : Program} {ops : Array Oper} {o : Oper} {a : Act} {Q : Exit → Act → World → Prop} {Kc : Act → World → Prop} {w0 W : World} (base : Nat) (hw : Region.wanted o (yielded ops a.tmps) = true) (s x : Operand) (t u e : TypeId)
    (ho : o.op = .call { callee := .builtin .append, args := #[s, x], argTypes := #[t, u] })
    (ht : P.underlying t = some (.slice e)) (hu : P.underlying u = some .string) (hinfo : (P.info? e).map (fun i => (i.zero, i.size, i.bytes)) = some (some (.int .u8 0), 1, 1))
    (v : Value) (xs : List Int) (y : ByteArray) (hs : a.eval s = v) (hx : a.eval x = .string y)
    (HO : Kd.R (Kd.int .u8) e W base (fun _ => True) v xs) (HB : Below base w0 W) (hbase : base ≤ W.heap.size) (hl : xs.length + y.size ≤ 140737488355328)
    (h : ∀ v1 w1, Kd.R (Kd.int .u8) e w1 base (fun _ => True) v1 (xs ++ bytesOf y) → Below base w0 w1 → W.grownBy w1 v.ownBlock → Kc (a.put o.dst v1) w1) :
    if Region.wanted o (yielded ops a.tmps) = true then Oper.wp P o a W Kc Q else Kc (a.put o.dst undef) W := by
  obtain ⟨i0, hi, hzz⟩ := Option.map_eq_some_iff.1 hinfo
  simp only [Prod.mk.injEq] at hzz
  obtain ⟨hz0, hz1, hz2⟩ := hzz
  have HO' := Kd.own_of_R HO
  obtain ⟨v1, w1, hr, hown, hg, _⟩ := Lib.run_append_own_string (P := P) W base t u o.type e i0 ht hu hi hz0 hz1 hz2 v xs.length _ HO' y (by simp only [maxLen]; omega) hl hbase
  have hl2 : (xs ++ bytesOf y).length = xs.length + y.size := by rw [List.length_append, bytesOf_length]
  have hc : encs (Value.int .u8) (xs ++ bytesOf y) = encs (Value.int .u8) xs ++ Lib.strCells y := by
    simp [encs, bytesOf, Lib.strCells]
  rw [if_pos hw]
  unfold Oper.wp execOp
  simp only [ho, resolve, invoke, builtin, Sem.run_bind, Sem.run_pure, Result.andThen_ok, List.map_toArray, List.map_cons, List.map_nil, hs, hx, hr]
  exact h v1 w1 (Kd.R_of_own (by rw [hl2, hc]; exact hown) (fun _ _ => trivial)) (HB.grown hg hbase (own_base HO')) hg
/-- Three bytes appended, one step of a region that draws. -/
theorem step_app3 {P : Program} {ops : Array Oper} {o : Oper} {a : Act} {Q : Exit → Act → World → Prop} {Kc : Act → World → Prop} {w0 W : World} (b0 b1 b2 : Int) (base : Nat) (hw : Region.wanted o (yielded ops a.tmps) = true) (s x : Operand) (t : TypeId)
    (ho : o.op = .call { callee := .builtin .append, args := #[s, x], argTypes := #[t, t] })
    (ht : P.underlying t = some (.slice 5)) (hinfo : (P.info? 5).map (fun i => (i.zero, i.size, i.bytes)) = some (some (.int .u8 0), 1, 1))
    (v : Value) (xs : List Int) (hs : a.eval s = v) (hx : a.eval x = .slice (some ⟨W.heap.size, 0, none⟩) 3 3)
    (HO : Kd.R (Kd.int .u8) 5 W base (fun _ => True) v xs) (HB : Below base w0 W) (hbase : base ≤ W.heap.size) (hl : (xs.length + 3) * 1 ≤ 140737488355328)
    (h : ∀ v1 w1, Kd.R (Kd.int .u8) 5 w1 base (fun _ => True) v1 (xs ++ [b0, b1, b2]) → Below base w0 w1 → (W.alloc (.cells #[.int .u8 b0, .int .u8 b1, .int .u8 b2] 5)).grownBy w1 v.ownBlock → Kc (a.put o.dst v1) w1) :
    if Region.wanted o (yielded ops a.tmps) = true then Oper.wp P o a ((W.alloc (.cells #[.int .u8 b0, .int .u8 b1, .int .u8 b2] 5)).drew) Kc Q else Kc (a.put o.dst undef) ((W.alloc (.cells #[.int .u8 b0, .int .u8 b1, .int .u8 b2] 5)).drew) := by
  have hC : Kd.C (Kd.int .u8) ((W.alloc (.cells #[.int .u8 b0, .int .u8 b1, .int .u8 b2] 5)).drew) (some ⟨W.heap.size, 0, none⟩) 3 [b0, b1, b2] := C_block rfl (by omega) (blk_new W _)
  refine Kd.R_append_rows_step (Kd.int .u8) (Rr := fun x cs => cs = [Value.int .u8 x]) (w0 := w0) base hw s x t 5 (.int .u8 0) 1 ho ht hinfo rfl (by decide) (by decide) v xs [b0, b1, b2] (some ⟨W.heap.size, 0, none⟩) 3 3 (fun _ => True) (fun _ => False) hs hx (Kd.R_drew (Kd.R_alloc HO _)) hC (fun _ _ h => h) (fun _ hk => hk.elim) (fun _ _ => trivial) (below_drew (HB.alloc hbase _)) ?_ hl ?_
  · show base ≤ (W.alloc _).heap.size
    rw [World.size_alloc]; omega
  · intro v1 w1 h1 h2 h3 _
    exact h v1 w1 h1 h2 ⟨h3.os, h3.tape, h3.output, h3.size, h3.block⟩
theorem box_after {W W' : World} {o : Obj} {g base : Nat} {ok : Nat → Prop} {v : Value} {ys : List Int} {b : Array Value} (hK : W.heap[g]? = some (.cells b 25 (0, 0))) (hR : Kd.R (Kd.int .u8) 5 W base ok v ys) (hG : (W.alloc o).grownBy W' v.ownBlock) : W'.heap[g]? = some (.cells b 25 (0, 0)) := by
  have h := blk_alloc hK o
  exact (hG.block g (blk_lt h) (Kd.R_ne (Kd.R_alloc hR o) h (by decide))).trans h
theorem R_lit3 {W : World} {base : Nat} {L : List Int} (hl : L.length = 3) (hg : base ≤ W.heap.size) : Kd.R (Kd.int .u8) 5 (W.alloc (.cells (L.map (Value.int .u8)).toArray 5)) base (fun _ => True) (.slice (some ⟨W.heap.size, 0, none⟩) 3 3) L := by
  have hb := blk_new W (.cells (L.map (Value.int .u8)).toArray 5)
  have e : (L.map (Value.int .u8)).toArray.toList = encs (Value.int .u8) L := rfl
  refine Kd.R_of_own (enc := Value.int .u8) (h1 := fun _ => rfl) ?_ (fun _ _ => trivial)
  rw [hl]
  exact ⟨by simp [encs, hl], .inr ⟨W.heap.size, 3, _, rfl, hg, hb, Nat.le_refl _, by unfold maxLen; omega, by simp [hl], by rw [e, List.take_of_length_le (by simp [encs, hl])]⟩⟩
structure RbW (w : World) (b : Array Value) (v : Value) (xs : List Int) (W : World) : Prop where
  box : W.heap[w.heap.size]? = some (.cells b 25 (0, 0))
  row : Kd.R (Kd.int .u8) 5 W w.heap.size (fun _ => True) v xs
  below : Below w.heap.size w W
def retB (w : World) (r : List Int × Int) (e : Ending) (w' : World) : Prop := ∃ v0_ : Value, e = .returned (.tuple #[v0_, .int .i64 r.2]) ∧ Kd.R (Kd.int .u8) 5 w' w.heap.size (fun _ => True) v0_ r.1 ∧ Below w.heap.size w w'
set_option maxHeartbeats 8000000 in
set_option maxRecDepth 100000 in
theorem rbytes13 (AL : Option Addr) (nL cL : Nat) (L : List S41) (AN : Option Addr) (nN cN : Nat) (N : List ByteArray) (w : World) (hL : L.length = nL) (hN : N.length = nN) (hcL : nL ≤ cL) (hcN : nN ≤ cN) (hrL : Kd.C k41 w AL nL L) (hrN : Kd.C Kd.string w AN nN N) :
    Calls Tryd.prog 13 #[.agg #[.slice AL nL cL, .slice AN nN cN]] w fun e w' => retB w (bytesV L N) e w' := by
  have hv : bytesV L N = if mayV L N = 0 then (encB L N, 0) else ([], mayV L N) := rfl
  obtain ⟨r, hr⟩ : ∃ r, bytesV L N = r := ⟨_, rfl⟩
  rw [hr] at hv ⊢
  have HL := Aside0.mk hL
  have HN := Aside0.mk hN
  have HRL := Aside0.mk hrL
  have HRN := Aside0.mk hrN
  have HV := Aside0.mk hv
  clear hr hv hL hN hrL hrN
  have hB1 : Below w.heap.size w (w.alloc (.cells #[.slice AL nL cL, .slice AN nN cN] 25)) := below_alloc (Below.refl _ _) _
  have hb1 := blk_new w (.cells #[.slice AL nL cL, .slice AN nN cN] 25)
  have HB1 := Aside0.mk hB1
  have HBX1 := Aside0.mk hb1
  clear hb1 hB1
  by_cases hf : 96 < nL ∨ 8 < nN
  · have hr : r = ([], 3) := by rw [HV.out]; have : mayV L N = 3 := by { unfold mayV; rw [HL.out, HN.out, if_pos hf] }; rw [this, if_neg (by decide)]
    subst hr
    have hcs : decide (96 < (nL : Int)) = true ∧ decide (96 < nL) = true ∨ decide (96 < (nL : Int)) = false ∧ decide (96 < nL) = false ∧ decide (8 < (nN : Int)) = true ∧ decide (8 < nN) = true := by
      by_cases h : 96 < nL
      · exact .inl ⟨decide_eq_true (by omega), decide_eq_true h⟩
      · exact .inr ⟨decide_eq_false (by omega), decide_eq_false h, decide_eq_true (by omega), decide_eq_true (by omega)⟩
    clear hf HV
    rcases hcs with ⟨p1, p2⟩ | ⟨p1, p2, p3, p4⟩
    all_goals
      go_enter Tryd.func13, Tryd.ntmps13
      go_wp2_with fail
      go_ret2
      exact ⟨_, rfl, Kd.R_nil _ _ _ _ _, HB1.out⟩
  · have h96 : nL ≤ 96 := by omega
    have h8 : nN ≤ 8 := by omega
    have p1 : decide (96 < (nL : Int)) = false := decide_eq_false (by omega)
    have p2 : decide (96 < nL) = false := decide_eq_false (by omega)
    have p3 : decide (8 < (nN : Int)) = false := decide_eq_false (by omega)
    have p4 : decide (8 < nN) = false := decide_eq_false (by omega)
    have hlong : longV N = true → r = ([], 10) := fun h => by
      rw [HV.out]
      have : mayV L N = 10 := by unfold mayV; rw [HL.out, HN.out, if_neg hf, if_pos h]
      rw [this, if_neg (by decide)]
    have hops : longV N = false → opsV L = false → r = ([], 5) := fun h h2 => by
      rw [HV.out]
      have : mayV L N = 5 := by unfold mayV; rw [HL.out, HN.out, if_neg hf, h, if_neg (by decide), h2, if_neg (by decide)]
      rw [this, if_neg (by decide)]
    have hall : longV N = false → opsV L = true → r = (encB L N, 0) := fun h h2 => by
      rw [HV.out]
      have : mayV L N = 0 := by unfold mayV; rw [HL.out, HN.out, if_neg hf, h, if_neg (by decide), h2, if_pos rfl]
      rw [this, if_pos rfl]
    have HLONG := Aside0.mk hlong
    have HOPS := Aside0.mk hops
    have HALL := Aside0.mk hall
    clear hlong hops hall HV hf
    go_enter Tryd.func13, Tryd.ntmps13
    go_wp2_with fail
    have bx0 := (blk_cell HBX1.out 0).trans (rfl : _ = some (Value.slice AL nL cL))
    have bx1 := (blk_cell HBX1.out 1).trans (rfl : _ = some (Value.slice AN nN cN))
    go_loop [4] (fun v4 => ∃ i : Nat, v4 = .int .i64 (i : Int) ∧ i ≤ nN ∧ Aside0 (∀ s ∈ N.take i, s.size ≤ 255)) (fun v4 => nN - (intOf v4).toNat)
    case atStart => exact ⟨0, rfl, Nat.zero_le _, ⟨fun _ h => by simp at h⟩⟩
    case round =>
      obtain ⟨i, rfl, hin, hsm⟩ := hrel
      by_cases hi : i < nN
      · have q1 : decide ((i : Int) < (nN : Int)) = true := decide_eq_true (by omega)
        have q2 : decide (i < nN) = true := decide_eq_true hi
        obtain ⟨ad, rfl, hcell⟩ := (Kd.reads_of_C (enc := Value.string) (d := ByteArray.empty) (h1 := fun _ => rfl) HRN.out).2.2 (by omega)
        have x0 := pw_cell_below HB1.out (hcell i hi)
        obtain ⟨s, hs⟩ : ∃ s, N.getD i ByteArray.empty = s := ⟨_, rfl⟩
        rw [hs] at x0
        have hsm2 : N[i]? = some s := by
          rw [← hs, List.getD_eq_getElem?_getD, List.getElem?_eq_getElem (by rw [HN.out]; exact hi)]; rfl
        have HS := Aside0.mk hsm2
        clear hcell hs hsm2
        by_cases hl : 255 < s.size
        · have q3 : decide (255 < (s.size : Int)) = true := decide_eq_true (by omega)
          have q4 : decide (255 < s.size) = true := decide_eq_true hl
          have hr := HLONG.out (List.any_eq_true.2 ⟨s, List.mem_of_getElem? HS.out, decide_eq_true hl⟩)
          subst hr
          clear hl HLONG HOPS HALL
          go_wp2_with fail
          go_ret2
          exact ⟨_, rfl, Kd.R_nil _ _ _ _ _, HB1.out⟩
        · have q3 : decide (255 < (s.size : Int)) = false := decide_eq_false (by omega)
          have q4 : decide (255 < s.size) = false := decide_eq_false hl
          have hn : ∀ s ∈ N.take (i + 1), s.size ≤ 255 := fun y hy => by
            rw [List.take_add_one, HS.out] at hy
            rcases List.mem_append.1 hy with hy | hy
            · exact hsm.out y hy
            · have : y = s := by simpa using hy
              subst this
              omega
          have HNX := Aside0.mk hn
          clear hl hn
          go_wp2_with fail
          go_round
          case rel => exact ⟨i + 1, by go_num, by omega, HNX⟩
          case measure => simp [intOf]; omega
      · have q1 : decide ((i : Int) < (nN : Int)) = false := decide_eq_false (by omega)
        have q2 : decide (i < nN) = false := decide_eq_false hi
        have hsz : ∀ s ∈ N, s.size ≤ 255 := by
          have := hsm.out
          rw [List.take_of_length_le (by rw [HN.out]; omega)] at this
          exact this
        have hlf : longV N = false := by
          rw [Bool.eq_false_iff]
          intro h
          obtain ⟨s, hs, hh⟩ := List.any_eq_true.1 h
          have := of_decide_eq_true hh
          have := hsz s hs
          omega
        have HSZ := Aside0.mk hsz
        have HOP := Aside0.mk (HOPS.out hlf)
        have HAL := Aside0.mk (HALL.out hlf)
        clear hsz hlf HOPS HALL HLONG
        go_wp2_with fail
        clear bx0 bx1 HBX1
        have hi1 : ((w.alloc (Obj.cells #[Value.slice AL nL cL, Value.slice AN nN cN] 25)).alloc (Obj.cells #[Value.int IntKind.u8 88, Value.int IntKind.u8 82, Value.int IntKind.u8 (nN : Int)] 5)).heap[w.heap.size]? = some (.cells #[.slice AL nL cL, .slice AN nN cN] 25 (0, 0)) := blk_alloc (blk_new w _) _
        have hi2 : Kd.R (Kd.int .u8) 5 ((w.alloc (Obj.cells #[Value.slice AL nL cL, Value.slice AN nN cN] 25)).alloc (Obj.cells #[Value.int IntKind.u8 88, Value.int IntKind.u8 82, Value.int IntKind.u8 (nN : Int)] 5)) w.heap.size (fun _ => True) (.slice (some ⟨w.heap.size + 1, 0, none⟩) 3 3) [88, 82, (nN : Int)] := by
          have := R_lit3 (W := w.alloc (Obj.cells #[Value.slice AL nL cL, Value.slice AN nN cN] 25)) (base := w.heap.size) (L := [88, 82, (nN : Int)]) rfl (by rw [World.size_alloc]; omega)
          rw [World.size_alloc] at this
          exact this
        have HST := Aside0.mk (RbW.mk hi1 hi2 (below_alloc HB1.out _))
        clear hi1 hi2 HB1
        go_loopw [5, 6] (fun v5 v6 wr => ∃ (i : Nat) (A : Option Addr) (c : Nat) (xs : List Int), v6 = .int .i64 (i : Int) ∧ i ≤ nN ∧ v5 = .slice A xs.length c ∧ Aside0 (RbW w #[.slice AL nL cL, .slice AN nN cN] (.slice A xs.length c) xs wr) ∧ Aside0 (xs = [88, 82, (nN : Int)] ++ (N.take i).flatMap nb) ∧ Aside0 (xs.length ≤ 3 + 256 * i)) (fun _ v6 _ => nN - (intOf v6).toNat)
        case atStart => exact ⟨0, _, _, [88, 82, (nN : Int)], rfl, Nat.zero_le _, rfl, HST, ⟨by simp⟩, ⟨by simp⟩⟩
        case round =>
          obtain ⟨i, A, c, xs, rfl, hin, rfl, HW, HX, HXL⟩ := hrel
          clear HST
          have bx0 := (blk_cell HW.out.box 0).trans (rfl : _ = some (Value.slice AL nL cL))
          have bx1 := (blk_cell HW.out.box 1).trans (rfl : _ = some (Value.slice AN nN cN))
          by_cases hi : i < nN
          · have q1 : decide ((i : Int) < (nN : Int)) = true := decide_eq_true (by omega)
            have q2 : decide (i < nN) = true := decide_eq_true hi
            obtain ⟨ad, rfl, hcell⟩ := (Kd.reads_of_C (enc := Value.string) (d := ByteArray.empty) (h1 := fun _ => rfl) HRN.out).2.2 (by omega)
            obtain ⟨s, hs⟩ : ∃ s, N.getD i ByteArray.empty = s := ⟨_, rfl⟩
            have hsm2 : N[i]? = some s := by
              rw [← hs, List.getD_eq_getElem?_getD, List.getElem?_eq_getElem (by rw [HN.out]; exact hi)]; rfl
            have hx := hcell i hi
            rw [hs] at hx
            have hss := HSZ.out s (List.mem_of_getElem? hsm2)
            have hstep : xs ++ [(s.size : Int)] ++ bytesOf s = [88, 82, (nN : Int)] ++ (N.take (i + 1)).flatMap nb := by
              rw [HX.out, List.take_add_one, hsm2]
              simp [nb]
              omega
            have hlen : (xs ++ [(s.size : Int)] ++ bytesOf s).length ≤ 3 + 256 * (i + 1) := by
              have := HXL.out
              rw [List.length_append, List.length_append, List.length_singleton, bytesOf_length]
              omega
            have hfact : ∀ W', Below w.heap.size w W' → W'.heap[w.heap.size]? = some (.cells #[.slice AL nL cL, .slice (some ad) nN cN] 25 (0, 0)) → W'.cell? ⟨w.heap.size, 1, none⟩ = some (.slice (some ad) nN cN) ∧ W'.cell? (ad.add i) = some (.string s) := fun W' hb h => ⟨(blk_cell h 1).trans rfl, pw_cell_below hb hx⟩
            have HFACT := Aside0.mk hfact
            have HSTEP := Aside0.mk hstep
            have HLEN := Aside0.mk hlen
            obtain ⟨-, x0⟩ := hfact _ HW.out.below HW.out.box
            have l1 : xs.length + 1 ≤ 140737488355328 := by have := HXL.out; omega
            have l2 : (xs ++ [(s.size : Int)]).length + s.size ≤ 140737488355328 := by have := HXL.out; rw [List.length_append, List.length_singleton]; omega
            have HL1 := Aside0.mk l1
            have HL2 := Aside0.mk l2
            have hs0 : (s.size : Int) % 256 = (s.size : Int) := by omega
            have hbase : w.heap.size ≤ wr.heap.size := HW.out.below.size
            have HBASE := Aside0.mk hbase
            obtain ⟨x6, hx6⟩ : ∃ x6, xs ++ [(s.size : Int)] ++ bytesOf s = x6 := ⟨_, rfl⟩
            have HX6 := Aside0.mk hx6
            rw [hx6] at HSTEP HLEN
            clear hx6
            have HU := Aside0.mk (show IntKind.u8.wrap (s.size : Int) = (s.size : Int) by rw [IntKind.wrap_u8]; omega)
            have HROW := Aside0.mk HW.out.row
            have hd1 : ∀ o, (wr.alloc o).cell? (ad.add i) = some (.string s) := fun o => (hfact _ (below_alloc HW.out.below o) (blk_alloc HW.out.box o)).2
            have hd2 : ∀ o, (wr.alloc o).cell? ⟨w.heap.size, 1, none⟩ = some (.slice (some ad) nN cN) := fun o => (hfact _ (below_alloc HW.out.below o) (blk_alloc HW.out.box o)).1
            clear hs hsm2 hx hcell hfact hstep hlen l1 l2 hbase
            go_wp2_with fail
            go_region_held3 (fun w' => w'.cell? ⟨w.heap.size, 1, none⟩ = some (.slice (some ad) nN cN) ∧ w'.cell? (ad.add i) = some (.string s))
              (first
                | exact HFACT.out _ (below_drew HW.out.below) HW.out.box
                | exact ⟨hd2 _, hd1 _⟩
                | exact HFACT.out _ (below_drew (below_alloc HW.out.below _)) (blk_alloc HW.out.box _)
                | exact HFACT.out _ B5.out K5.out
                | exact HFACT.out _ B6.out K6.out)
              (first
                | (refine Kd.R_append_step (Kd.int .u8) (W := wr.drew) (w0 := w) w.heap.size rfl (.tmp 44) (.tmp 52) 28 5 _ 1 rfl Tryd.underlying28 info5 rfl (by decide) (by decide) (.slice A xs.length c) xs (IntKind.u8.wrap (s.size : Int)) [.int .u8 (IntKind.u8.wrap (s.size : Int))] (fun _ => True) (fun _ => False) rfl rfl rfl (fun _ hk => hk.elim) (fun _ _ => trivial) (Kd.R_drew HROW.out) (below_drew HW.out.below) HBASE.out (by have := HL1.out; omega) ?_; intro v5 w5 T5 b5 G5 _; rw [HU.out] at T5; have B5 := Aside0.mk b5; have K5 := Aside0.mk ((G5.block _ (blk_lt HW.out.box) (Kd.R_ne HROW.out HW.out.box (by decide))).trans HW.out.box); have e5 := Kd.R_slice T5; rw [List.length_append, List.length_singleton] at e5; obtain ⟨A5, c5, rfl⟩ := e5; have T5' := Aside0.mk T5; obtain ⟨f1, f2⟩ := HFACT.out _ B5.out K5.out; clear T5 b5 G5)
                | (refine step_append_strR (W := w5) (w0 := w) w.heap.size rfl (.tmp 53) (.tmp 58) 28 9 5 rfl Tryd.underlying28 Tryd.underlying9 info5 (.slice A5 (xs.length + 1) c5) (xs ++ [(s.size : Int)]) s rfl rfl T5'.out B5.out B5.out.size HL2.out ?_; intro v6 w6 T6 b6 G6; rw [HX6.out] at T6; have T6' := Aside0.mk T6; have B6 := Aside0.mk b6; have K6 := Aside0.mk ((G6.block _ (blk_lt K5.out) (Kd.R_ne T5'.out K5.out (by decide))).trans K5.out); obtain ⟨A6, c6, rfl⟩ := Kd.R_slice T6; clear T6 b6 G6))
            all_goals go_wp2_with fail
            all_goals
              go_roundw
              case rel => exact ⟨i + 1, A6, c6, x6, by go_num, by omega, rfl, ⟨K6.out, T6'.out, B6.out⟩, HSTEP, HLEN⟩
              case measure => simp [intOf]; omega
          · have q1 : decide ((i : Int) < (nN : Int)) = false := decide_eq_false (by omega)
            have q2 : decide (i < nN) = false := decide_eq_false hi
            have hx0 := HX.out
            rw [List.take_of_length_le (by rw [HN.out]; omega)] at hx0
            have HX0 := Aside0.mk hx0
            have HX1 := Aside0.mk (show (xs.length + 1) * 1 ≤ 140737488355328 by have := HXL.out; omega)
            have HX2 := Aside0.mk (show (xs ++ [(nL : Int)]).length ≤ 3 + 256 * 8 + 1 by have := HXL.out; rw [List.length_append, List.length_singleton]; omega)
            clear hx0 HX
            go_wp2_with (at_builtin; refine Kd.R_append (Kd.int .u8) (w0 := w) w.heap.size rfl (.tmp 60) (.tmp 65) 28 5 _ 1 rfl Tryd.underlying28 info5 rfl (by decide) (by decide) (.slice A xs.length c) xs (nL : Int) [.int .u8 (nL : Int)] (fun _ => True) (fun _ => False) rfl rfl rfl (fun _ hk => hk.elim) (fun _ _ => trivial) HW.out.row HW.out.below HW.out.below.size HX1.out ?_; intro v5 w5 T5 b5 G5 _; have B5 := Aside0.mk b5; have K5 := Aside0.mk ((G5.block _ (blk_lt HW.out.box) (Kd.R_ne HW.out.row HW.out.box (by decide))).trans HW.out.box); obtain ⟨A5, c5, rfl⟩ := Kd.R_slice T5; have T5' := Aside0.mk T5; clear T5 b5 G5)
            clear bx0 bx1
            obtain ⟨x5, hx5⟩ : ∃ x5, xs ++ [(nL : Int)] = x5 := ⟨_, rfl⟩
            rw [hx5] at HX2 T5'
            have HX5 := Aside0.mk hx5
            go_loopw [5, 7] (fun v5 v7 wr => ∃ (j : Nat) (A : Option Addr) (c : Nat) (ys : List Int), v7 = .int .i64 (j : Int) ∧ j ≤ nL ∧ v5 = .slice A ys.length c ∧ Aside0 (RbW w #[.slice AL nL cL, .slice AN nN cN] (.slice A ys.length c) ys wr) ∧ Aside0 (ys = x5 ++ (L.take j).flatMap ib) ∧ Aside0 (ys.length ≤ 3 + 256 * 8 + 1 + 3 * j) ∧ Aside0 (opsV (L.take j) = true)) (fun _ v7 _ => nL - (intOf v7).toNat)
            case atStart => exact ⟨0, A5, c5, x5, rfl, Nat.zero_le _, by rw [← hx5]; first | rfl | simp, ⟨K5.out, T5'.out, B5.out⟩, ⟨by simp⟩, ⟨HX2.out⟩, ⟨rfl⟩⟩
            case round =>
              obtain ⟨j, Ay, cy, ys, rfl, hjn, rfl, HY, HYX, HYL, HYO⟩ := hrel
              clear T5' K5 B5 HX2
              have bx0 := (blk_cell HY.out.box 0).trans (rfl : _ = some (Value.slice AL nL cL))
              have bx1 := (blk_cell HY.out.box 1).trans (rfl : _ = some (Value.slice AN nN cN))
              by_cases hj : j < nL
              · have q3 : decide ((j : Int) < (nL : Int)) = true := decide_eq_true (by omega)
                have q4 : decide (j < nL) = true := decide_eq_true hj
                obtain ⟨ad, rfl, c0, c1⟩ := at_T41 HRL.out (j : Int) (by omega) (by omega)
                obtain ⟨x, hx⟩ : ∃ x, rd_T41 L (j : Int) = x := ⟨_, rfl⟩
                rw [hx, Int.toNat_natCast] at c0 c1
                have hxm : L[j]? = some x := by
                  rw [← hx]
                  unfold rd_T41
                  rw [Int.toNat_natCast, List.getD_eq_getElem?_getD, List.getElem?_eq_getElem (by rw [HL.out]; exact hj)]
                  rfl
                have x0 := pw_cell_below HY.out.below c0
                have x1 := pw_cell_below HY.out.below c1
                have HC0 := Aside0.mk c0
                have HC1 := Aside0.mk c1
                have HXM := Aside0.mk hxm
                have HMC := Aside0.mk (rmay17 table23 x.f0 x.f1)
                clear c0 c1 hx hxm
                cases hm : mayI x.f0 x.f1
                · rw [hm] at HMC
                  have hof : opsV L = false := by
                    rw [Bool.eq_false_iff]
                    intro h
                    have := List.all_eq_true.1 h x (List.mem_of_getElem? HXM.out)
                    rw [hm] at this
                    cases this
                  have hr := HOP.out hof
                  subst hr
                  clear hm hof HOP HAL
                  go_wp2_with (go_at_call 17; refine (HMC.out _).mono ?_; rintro e W7 ⟨rfl, hB7⟩)
                  go_ret2
                  exact ⟨_, rfl, Kd.R_nil _ _ _ _ _, HY.out.below.trans (hB7.mono HY.out.below.size)⟩
                · rw [hm] at HMC
                  obtain ⟨m1, m2, m3, m4, _⟩ := may_range hm
                  have hnx : opsV (L.take (j + 1)) = true := by
                    rw [List.take_add_one, HXM.out]
                    unfold opsV
                    rw [List.all_append]
                    have := HYO.out
                    unfold opsV at this
                    rw [this]
                    simp [hm]
                  have hstep : ys ++ ib x = x5 ++ (L.take (j + 1)).flatMap ib := by
                    rw [HYX.out, List.take_add_one, HXM.out]
                    simp
                  have hlen : (ys ++ ib x).length ≤ 3 + 256 * 8 + 1 + 3 * (j + 1) := by
                    have := HYL.out
                    rw [List.length_append, show (ib x).length = 3 from rfl]
                    omega
                  obtain ⟨y6, hy6⟩ : ∃ y6, ys ++ ib x = y6 := ⟨_, rfl⟩
                  rw [hy6] at hstep hlen
                  have HY6 := Aside0.mk hy6
                  have HNX := Aside0.mk hnx
                  have HSTEP := Aside0.mk hstep
                  have HLEN := Aside0.mk hlen
                  have HM := Aside0.mk (And.intro m1 (And.intro m2 (And.intro m3 m4)))
                  have HL1 := Aside0.mk (show (ys.length + 3) * 1 ≤ 140737488355328 by have := HYL.out; omega)
                  have hfact : ∀ W', Below w.heap.size w W' → W'.heap[w.heap.size]? = some (.cells #[.slice (some ad) nL cL, .slice AN nN cN] 25 (0, 0)) → W'.cell? ⟨w.heap.size, 0, none⟩ = some (.slice (some ad) nL cL) ∧ W'.cell? (ad.add (j * 2)) = some (.int .i64 x.f0) ∧ W'.cell? ⟨(ad.add (j * 2)).block, (ad.add (j * 2)).off + 1, none⟩ = some (.int .i64 x.f1) := fun W' hb h => ⟨(blk_cell h 0).trans rfl, pw_cell_below hb HC0.out, pw_cell_below hb HC1.out⟩
                  have HIB := Aside0.mk (show [IntKind.u8.wrap x.f0, IntKind.u8.wrap (x.f1 / 256), IntKind.u8.wrap x.f1] = ib x by rw [IntKind.wrap_u8, IntKind.wrap_u8, IntKind.wrap_u8]; rfl)
                  have HRL3 := Aside0.mk (fun W : World => (C_block (W := (W.alloc (.cells #[.int .u8 (IntKind.u8.wrap x.f0), .int .u8 (IntKind.u8.wrap (x.f1 / 256)), .int .u8 (IntKind.u8.wrap x.f1)] 5)).drew) (g := W.heap.size) (n := 3) (H := [IntKind.u8.wrap x.f0, IntKind.u8.wrap (x.f1 / 256), IntKind.u8.wrap x.f1]) rfl (by omega) (blk_new W _) : Kd.C (Kd.int .u8) _ _ 3 _))
                  have HFACT := Aside0.mk hfact
                  clear m1 m2 m3 m4 hnx hstep hlen hy6 hm hfact hx5
                  go_wp2_with (go_at_call 17; refine (HMC.out _).mono ?_; rintro e W7 ⟨rfl, hB7⟩; have B7 := Aside0.mk (HY.out.below.trans (hB7.mono HY.out.below.size)); have K7 := Aside0.mk (blk_below HY.out.box hB7); have R7 := Aside0.mk (Kd.R_below HY.out.row hB7); clear hB7)
                  obtain ⟨d0, d1, d2⟩ := HFACT.out _ B7.out K7.out
                  have e0 := fun o => HFACT.out _ (below_alloc B7.out o) (blk_alloc K7.out o)
                  go_region_held3 (fun w' => w'.cell? ⟨w.heap.size, 0, none⟩ = some (.slice (some ad) nL cL) ∧ w'.cell? (ad.add (j * 2)) = some (.int .i64 x.f0) ∧ w'.cell? ⟨(ad.add (j * 2)).block, (ad.add (j * 2)).off + 1, none⟩ = some (.int .i64 x.f1))
                    (first
                      | exact HFACT.out _ (below_drew B7.out) K7.out
                      | exact e0 _
                      | exact HFACT.out _ (below_drew (below_alloc B7.out _)) (blk_alloc K7.out _)
                      | exact HFACT.out _ B8.out K8.out)
                    (first
                      | (refine step_app3 (W := W7) (w0 := w) (IntKind.u8.wrap x.f0) (IntKind.u8.wrap (x.f1 / 256)) (IntKind.u8.wrap x.f1) w.heap.size rfl (.tmp 81) (.tmp 104) 28 rfl Tryd.underlying28 info5 (.slice Ay ys.length cy) ys ?aS ?aX R7.out B7.out B7.out.size HL1.out ?_; (case aS => simp [Act.eval, Act.put]); (case aX => simp [Act.eval, Act.put]); intro v8 w8 T8 b8 G8; rw [HIB.out, HY6.out] at T8; have T8' := Aside0.mk T8; have B8 := Aside0.mk b8; have K8 := Aside0.mk (box_after K7.out R7.out G8); obtain ⟨A8, c8, rfl⟩ := Kd.R_slice T8; clear T8 b8 G8))
                  all_goals go_wp2_with fail
                  all_goals
                    go_roundw
                    case rel => exact ⟨j + 1, A8, c8, y6, by go_num, by omega, rfl, ⟨K8.out, T8'.out, B8.out⟩, HSTEP, HLEN, HNX⟩
                    case measure => simp [intOf]; omega
              · have q3 : decide ((j : Int) < (nL : Int)) = false := decide_eq_false (by omega)
                have q4 : decide (j < nL) = false := decide_eq_false hj
                have htk : L.take j = L := List.take_of_length_le (by rw [HL.out]; omega)
                have ho := HYO.out
                have hye := HYX.out
                rw [htk] at ho hye
                have hr := HAL.out ho
                subst hr
                have hfin : ys = encB L N := by
                  rw [hye, ← HX5.out, HX0.out]
                  unfold encB
                  rw [HN.out, HL.out, show (nN : Int) % 256 = (nN : Int) by omega, show (nL : Int) % 256 = (nL : Int) by omega]
                subst hfin
                clear ho hye htk
                go_wp2_with fail
                go_ret2
                exact ⟨_, rfl, HY.out.row, HY.out.below⟩
def crossroadsref12_Bytes.f (l0_0 : List S41) (l0_1 : List ByteArray) : Option (List Int × Int) := some (bytesV l0_0 l0_1)
theorem crossroadsref12_Bytes.calls (A0_0 : Option Addr) (c0_0 : Nat) (l0_0 : List S41) (A0_1 : Option Addr) (c0_1 : Nat) (l0_1 : List ByteArray) (r1 : List Int) (r2 : Int) (w : World) (hr0_0 : Kd.C k41 w A0_0 l0_0.length l0_0) (hc0_0 : l0_0.length ≤ c0_0) (hr0_1 : Kd.C Kd.string w A0_1 l0_1.length l0_1) (hc0_1 : l0_1.length ≤ c0_1) (h : crossroadsref12_Bytes.f l0_0 l0_1 = some (r1, r2)) :
    Calls Tryd.prog 13 #[.agg #[.slice A0_0 l0_0.length c0_0, .slice A0_1 l0_1.length c0_1]] w fun e w' => ∃ v0_ : Value, e = .returned (.tuple #[v0_, .int .i64 r2]) ∧ Kd.R (Kd.int .u8) 5 w' w.heap.size (fun _ => True) v0_ r1 ∧ Below w.heap.size w w' := by
  have h := Option.some.inj h
  have := rbytes13 A0_0 l0_0.length c0_0 l0_0 A0_1 l0_1.length c0_1 l0_1 w rfl rfl hc0_0 hc0_1 hr0_0 hr0_1
  rw [h] at this
  exact this
end Go.Proofs.YtckmgoeflecpgaaDoor.G
