/- prog.reader's take and one, walked. -/
import Derived.Test.YtckmgoeflecpgaaDoorWWords
import Derived.Test.YtckmgoeflecpgaaDoorWLast
import Derived.Test.YtckmgoeflecpgaaDoorWMore
import Derived.Test.YtckmgoeflecpgaaDoorPx0
import Derived.Deep.RegionHeld3
namespace Go.Proofs.YtckmgoeflecpgaaDoor.I
set_option linter.unusedVariables false
set_option linter.unusedSimpArgs false
open Go.RowKit Go.Proofs.YtckmgoeflecpgaaDoor.P Go.Proofs.YtckmgoeflecpgaaDoorW.PrintWords Go.Proofs.YtckmgoeflecpgaaDoorW.PrintLast Go.Proofs.YtckmgoeflecpgaaDoorW.PrintMore
def zs (n : Nat) : List Int := List.replicate n 0
theorem zs_len (n : Nat) : (zs n).length = n := List.length_replicate
/-- What is left of the bytes; were there too few? -/
abbrev St := List Int × Bool
def takeS (m : Nat) (s : St) : List Int × St := if s.2 = true ∨ s.1.length < m then (zs m, (s.1, true)) else (s.1.take m, (s.1.drop m, false))
theorem takeS_len (m : Nat) (s : St) : (takeS m s).1.length = m := by
  unfold takeS
  split
  · exact zs_len m
  · next h => rw [List.length_take]; simp at h; omega
/-- All blocks but one stand. -/
structure Fr (g : Nat) (w w' : World) : Prop where
  os : w'.os = w.os
  tape : w'.tape = w.tape
  output : w'.output = w.output
  size : w.heap.size ≤ w'.heap.size
  block : ∀ k, k < w.heap.size → k ≠ g → w'.heap[k]? = w.heap[k]?
theorem Fr.refl (g : Nat) (w : World) : Fr g w w := ⟨rfl, rfl, rfl, Nat.le_refl _, fun _ _ _ => rfl⟩
theorem Fr.trans {g : Nat} {a b c : World} (h : Fr g a b) (k : Fr g b c) : Fr g a c :=
  ⟨k.os.trans h.os, k.tape.trans h.tape, k.output.trans h.output, Nat.le_trans h.size k.size, fun i hi hn => (k.block i (Nat.lt_of_lt_of_le hi h.size) hn).trans (h.block i hi hn)⟩
theorem Fr.of_below {g : Nat} {a b : World} (h : Below a.heap.size a b) : Fr g a b := ⟨h.os, h.tape, h.output, h.size, fun k hk _ => h.block k hk⟩
theorem Fr.below {g B : Nat} {a b : World} (h : Fr g a b) (hB : B ≤ g) (hs : B ≤ a.heap.size) : Below B a b := ⟨h.os, h.tape, h.output, h.size, fun k hk => h.block k (by omega) (by omega)⟩
theorem Fr.set {g : Nat} {a b : World} (h : Fr g a b) (j : Nat) (u : Value) : Fr g a (b.setCell ⟨g, j, none⟩ u) :=
  ⟨h.os, h.tape, h.output, by rw [show (b.setCell ⟨g, j, none⟩ u).heap.size = b.heap.size from World.size_setCell _ _ _]; exact h.size, fun k hk hn => (Below.heap_setCell b ⟨g, j, none⟩ u k hn).trans (h.block k hk hn)⟩
theorem Fr.drew {g : Nat} {a b : World} (h : Fr g a b) : Fr g a b.drew := ⟨h.os, h.tape, h.output, h.size, h.block⟩
theorem Fr.alloc {g : Nat} {a b : World} (h : Fr g a b) (o : Obj) : Fr g a (b.alloc o) := h.trans (Fr.of_below (below_alloc (Below.refl _ _) o))
/-- The reader at block g, over a base world. -/
def IsRd (w0 : World) (g : Nat) (s : St) (W : World) : Prop := ∃ A n c, W.heap[g]? = some (.cells #[.slice A n c, .bool s.2] 52 (0, 0)) ∧ s.1.length = n ∧ n ≤ c ∧ Kd.C (Kd.int .u8) w0 A n s.1 ∧ w0.heap.size ≤ g ∧ Below w0.heap.size w0 W
theorem IsRd.keep {w0 : World} {g : Nat} {s : St} {W W' : World} (h : IsRd w0 g s W) (hb : Below W.heap.size W W') : IsRd w0 g s W' := by
  obtain ⟨A, n, c, h1, h2, h3, h4, h5, h6⟩ := h
  exact ⟨A, n, c, blk_below h1 hb, h2, h3, h4, h5, h6.trans (hb.mono h6.size)⟩
theorem made_zs (m : Nat) : madeCells #[.int .u8 0] m = ((zs m).map (Value.int .u8)).toArray := by
  apply Array.ext
  · simp [madeCells, zs]
  · intro i h1 h2
    simp [madeCells, zs, Nat.mod_one]
theorem C_block {W : World} {g n : Nat} {H : List Int} (hl : H.length = n) (hn : n ≤ 100000) (hg : W.heap[g]? = some (.cells (H.map (Value.int .u8)).toArray 5 (0, 0))) : Kd.C (Kd.int .u8) W (some ⟨g, 0, none⟩) n H := by
  refine ⟨hl, by omega, fun _ => ⟨_, rfl, fun j p hj => ?_⟩⟩
  obtain ⟨hj1, hj2⟩ := List.getElem?_eq_some_iff.1 hj
  refine ⟨[.int .u8 p], rfl, rfl, fun i u hu => ?_⟩
  cases i with
  | zero =>
    have hu : u = .int .u8 p := by simpa using hu.symm
    subst hu
    have h := blk_cell hg j
    rw [List.getElem?_toArray] at h
    rw [List.getElem?_map, hj] at h
    have e : (⟨g, 0, none⟩ : Addr).add (j * (Kd.int IntKind.u8).sz + 0) = ⟨g, j, none⟩ := by
      have e1 : (Kd.int IntKind.u8).sz = 1 := rfl
      rw [e1]
      simp [Addr.add]
      omega
    rw [e]
    exact h
  | succ i => simp at hu
theorem cutT (A : Option Addr) (c : Nat) (xs : List Int) (hi n : Nat) (hn : xs.length = n) (h2 : hi ≤ n) (hc : n ≤ c) :
    (∀ W : World, (Instr.slice 28 (.slice A n c) none (some (.int .i64 (hi : Int))) none).run Tryd.prog W = .ok (.slice A hi c) W) ∧
      (∀ (W : World), Kd.C (Kd.int .u8) W A n xs → Kd.C (Kd.int .u8) W A hi (xs.take hi)) := by
  obtain ⟨i5, hi5, _, hz, _⟩ := info_parts P.info5
  subst hn
  have hl : (xs.take hi).length = hi := by rw [List.length_take]; omega
  refine ⟨fun W => ?_, fun W h => ?_⟩
  · have := (print_take_of (Value.int .u8) (0 : Int) 28 5 .i64 Tryd.underlying28 hi5 hz A c xs (hi : Int) (by omega) (by omega) hc).1 W
    simp only [Int.toNat_natCast] at this
    rw [this, hl]
  · have := Kd.C_take h h2
    rw [hl] at this
    exact this
theorem cutD (A : Option Addr) (c : Nat) (xs : List Int) (lo n m : Nat) (hn : xs.length = n) (h2 : lo ≤ n) (hc : n ≤ c) (hm : m = n - lo) :
    ∃ A', (∀ W : World, (Instr.slice 28 (.slice A n c) (some (.int .i64 (lo : Int))) none none).run Tryd.prog W = .ok (.slice A' m (c - lo)) W) ∧
      (∀ (W : World), Kd.C (Kd.int .u8) W A n xs → Kd.C (Kd.int .u8) W A' m (xs.drop lo)) ∧ (xs.drop lo).length = m := by
  obtain ⟨i5, hi5, _, hz, _⟩ := info_parts P.info5
  subst hn
  have hl : (xs.drop lo).length = m := by rw [List.length_drop]; omega
  have hel : Tryd.prog.elem 28 = 5 := by simp [Program.elem, Tryd.underlying28]
  have hu : Tryd.prog.underlying 28 = some (.slice (Tryd.prog.elem 28)) := by rw [hel]; exact Tryd.underlying28
  refine ⟨if c = lo then A else A.map (·.add (lo * 1)), fun W => ?_, fun W h => ?_, hl⟩
  · rw [run_slice_l W 28 A xs.length c hu .i64 (lo : Int) (by omega) (by omega), hel, hm]
    simp [sizeOf, typeInfo, hi5, hz, sliced, Result.andThen]
  · have := Kd.C_drop (c := c) h h2 hc
    rw [hl] at this
    exact this
set_option maxHeartbeats 4000000 in
set_option maxRecDepth 100000 in
theorem take22 (w0 W : World) (g : Nat) (s : St) (m : Nat) (hm : m ≤ 1000) (h : IsRd w0 g s W) :
    Calls Tryd.prog 22 #[.pointer (some ⟨g, 0, none⟩), .int .i64 (m : Int)] W fun e W' => ∃ A c, e = .returned (.slice A m c) ∧ m ≤ c ∧ Kd.C (Kd.int .u8) W' A m (takeS m s).1 ∧ IsRd w0 g (takeS m s).2 W' ∧ Fr g W W' := by
  obtain ⟨A, n, c, h1, h2, h3, h4, h5, h6⟩ := h
  have c0 : W.cell? ⟨g, 0, none⟩ = some (.slice A n c) := (blk_cell h1 0).trans rfl
  have c1 : W.cell? ⟨g, 1, none⟩ = some (.bool s.2) := (blk_cell h1 1).trans rfl
  have f0 : W.frozen? ⟨g, 0, none⟩ = false := blk_frozen h1 0
  have f1 : W.frozen? ⟨g, 1, none⟩ = false := blk_frozen h1 1
  obtain ⟨l, bad⟩ := s
  have hmk : ∀ W : World, (Instr.makeSlice 28 (.int .i64 (m : Int)) (.int .i64 (m : Int))).run Tryd.prog W = .ok (.slice (some ⟨W.heap.size, 0, none⟩) m m) (W.alloc (.cells (madeCells #[.int .u8 0] m) 5)) := fun W => run_make_row' (P := Tryd.prog) 28 5 (.int .u8 0) 1 Tryd.underlying28 info5 rfl .i64 .i64 m (by omega) (by omega) W
  have H1 := Aside0.mk h1
  have H2 := Aside0.mk h2
  have H4 := Aside0.mk h4
  have H6 := Aside0.mk h6
  dsimp only at c1 h2
  by_cases hb : bad = true ∨ n < m
  · have hts : takeS m (l, bad) = (zs m, (l, true)) := by unfold takeS; rw [if_pos (by rw [← h2] at hb; exact hb)]
    rw [hts]
    have hend : ∀ W1, W1 = (W.setCell ⟨g, 1, none⟩ (.bool true)).alloc (.cells (madeCells #[.int .u8 0] m) 5) → Kd.C (Kd.int .u8) W1 (some ⟨W.heap.size, 0, none⟩) m (zs m) ∧ IsRd w0 g (l, true) W1 ∧ Fr g W W1 := by
      rintro W1 rfl
      have hz : (W.setCell ⟨g, 1, none⟩ (.bool true)).heap.size = W.heap.size := World.size_setCell _ _ _
      refine ⟨?_, ⟨A, n, c, ?_, h2, h3, h4, h5, ?_⟩, (((Fr.refl g W).set 1 _).alloc _)⟩
      · refine C_block (zs_len m) (by omega) ?_
        have := blk_new (W.setCell ⟨g, 1, none⟩ (.bool true)) (.cells (madeCells #[.int .u8 0] m) 5)
        rw [hz, made_zs] at this
        rw [made_zs]
        exact this
      · exact blk_alloc (blk_put h1 1 (.bool true) rfl) _
      · exact h6.trans ((((Fr.refl g W).set 1 _).alloc _).below h5 h6.size)
    have HE := Aside0.mk hend
    clear hend h1 h2 h4 h6 hts
    cases bad
    · have q1 : decide ((n : Int) < (m : Int)) = true := decide_eq_true (by rcases hb with hb | hb; cases hb; omega)
      have q2 : decide (n < m) = true := decide_eq_true (by rcases hb with hb | hb; cases hb; omega)
      clear hb
      go_enter Tryd.func22, Tryd.ntmps22
      go_wp2_with fail
      go_ret
      exact ⟨_, _, rfl, Nat.le_refl _, HE.out _ rfl⟩
    · clear hb
      go_enter Tryd.func22, Tryd.ntmps22
      go_wp2_with fail
      go_ret
      exact ⟨_, _, rfl, Nat.le_refl _, HE.out _ rfl⟩
  · have hb2 : bad = false := by cases bad; rfl; exact absurd (.inl rfl) hb
    subst hb2
    have hmn : m ≤ n := by have : ¬ n < m := fun h => hb (.inr h); omega
    have hts : takeS m (l, false) = (l.take m, (l.drop m, false)) := by unfold takeS; rw [if_neg (by rw [← h2] at hb; exact hb)]
    rw [hts]
    obtain ⟨S1, F1⟩ := cutT A c l m n h2 hmn h3
    obtain ⟨A2, S2, F2, L2⟩ := cutD A c l m n (n - m) h2 hmn h3 rfl
    have hend : ∀ W1, W1 = W.setCell ⟨g, 0, none⟩ (.slice A2 (n - m) (c - m)) → Kd.C (Kd.int .u8) W1 A m (l.take m) ∧ IsRd w0 g (l.drop m, false) W1 ∧ Fr g W W1 := by
      rintro W1 rfl
      have hb1 : Below w0.heap.size w0 (W.setCell ⟨g, 0, none⟩ (.slice A2 (n - m) (c - m))) := h6.trans ((((Fr.refl g W).set 0 _)).below h5 h6.size)
      exact ⟨Kd.C_below (F1 _ h4) hb1, ⟨A2, n - m, c - m, blk_put h1 0 _ rfl, L2, by omega, F2 _ h4, h5, hb1⟩, (Fr.refl g W).set 0 _⟩
    have HE := Aside0.mk hend
    have q1 : decide ((n : Int) < (m : Int)) = false := decide_eq_false (by omega)
    have q2 : decide (n < m) = false := decide_eq_false (by omega)
    have hmc : m ≤ c := by omega
    clear hend h1 h2 h4 h6 hts F1 F2 hb
    go_enter Tryd.func22, Tryd.ntmps22
    go_wp2_with fail
    go_ret
    exact ⟨_, _, rfl, hmc, HE.out _ rfl⟩
def oneS (s : St) : Int × St := ((takeS 1 s).1.getD 0 0, (takeS 1 s).2)
def okB (l : List Int) : Prop := ∀ x ∈ l, 0 ≤ x ∧ x < 256
theorem okB_take (m : Nat) (s : St) (h : okB s.1) : okB (takeS m s).1 ∧ okB (takeS m s).2.1 := by
  unfold takeS
  split
  · exact ⟨fun x hx => by have := List.eq_of_mem_replicate hx; omega, h⟩
  · exact ⟨fun x hx => h x (List.mem_of_mem_take hx), fun x hx => h x (List.mem_of_mem_drop hx)⟩
theorem oneS_ok (s : St) (h : okB s.1) : 0 ≤ (oneS s).1 ∧ (oneS s).1 < 256 ∧ okB (oneS s).2.1 := by
  obtain ⟨h1, h2⟩ := okB_take 1 s h
  have hl := takeS_len 1 s
  have hm : (takeS 1 s).1.getD 0 0 ∈ (takeS 1 s).1 := by
    rw [List.getD_eq_getElem?_getD, List.getElem?_eq_getElem (by omega)]
    exact List.getElem_mem _
  exact ⟨(h1 _ hm).1, (h1 _ hm).2, h2⟩
set_option maxHeartbeats 4000000 in
set_option maxRecDepth 100000 in
theorem one21 (w0 W : World) (g : Nat) (s : St) (ok : okB s.1) (h : IsRd w0 g s W) :
    Calls Tryd.prog 21 #[.pointer (some ⟨g, 0, none⟩)] W fun e W' => e = .returned (.int .i64 (oneS s).1) ∧ IsRd w0 g (oneS s).2 W' ∧ Fr g W W' := by
  have HT := Aside0.mk (take22 w0 W g s 1 (by omega) h)
  have ho := oneS_ok s ok
  have hl := takeS_len 1 s
  have e1 : (oneS s).1 = (takeS 1 s).1.getD 0 0 := rfl
  have e2 : (oneS s).2 = (takeS 1 s).2 := rfl
  rw [e2]
  generalize (oneS s).1 = x at *
  generalize takeS 1 s = r at *
  obtain ⟨l, s'⟩ := r
  dsimp only at *
  have hx : (x : Int) % 256 = x := by omega
  have HX := Aside0.mk e1
  clear e1 e2 h ok
  go_enter Tryd.func21, Tryd.ntmps21
  go_wp2_with (go_at_call 22; refine HT.out.mono ?_; rintro e W1 ⟨A, c, rfl, hc, hC, hR, hF⟩; obtain ⟨ad, rfl, hcell⟩ := (Kd.reads_of_C (enc := Value.int .u8) (d := (0 : Int)) (h1 := fun _ => rfl) hC).2.2 (by omega); have hx0 := hcell 0 (by omega); rw [← HX.out, Addr.add_zero'] at hx0)
  go_ret
  exact ⟨rfl, hR, hF⟩
end Go.Proofs.YtckmgoeflecpgaaDoor.I
