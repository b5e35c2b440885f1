/- prog.Read's state. -/
import Derived.Test.YtckmgoeflecpgaaDoorProgL
namespace Go.Proofs.YtckmgoeflecpgaaDoor.G
set_option linter.unusedVariables false
set_option linter.unusedSimpArgs false
open Go.RowKit Go.Proofs.YtckmgoeflecpgaaDoor.L Go.Proofs.YtckmgoeflecpgaaDoor.I Go.Proofs.YtckmgoeflecpgaaDoor.P Go.Proofs.YtckmgoeflecpgaaDoorW.PrintWords Go.Proofs.YtckmgoeflecpgaaDoorW.PrintLast Go.Proofs.YtckmgoeflecpgaaDoorW.PrintMore
theorem info9 : (Tryd.prog.info? 9).map (fun i => (i.zero, i.size, i.bytes)) = some (some (.string ⟨#[]⟩), 1, 16) := by kernel_rfl
theorem info41 : (Tryd.prog.info? 41).map (fun i => (i.zero, i.size, i.bytes)) = some (some (.agg #[.int .i64 0, .int .i64 0]), 2, 16) := by kernel_rfl
theorem E41 : ∀ q, q ∈ 41 :: k41.E → q = 41 := fun q hq => by
  have : k41.E = [] := rfl
  rw [this] at hq
  exact List.mem_singleton.1 hq
theorem E9 : ∀ q, q ∈ 9 :: Kd.string.E → q = 9 := fun q hq => by
  have : Kd.string.E = [] := rfl
  rw [this] at hq
  exact List.mem_singleton.1 hq
def AnyK : Nat → Prop := fun _ => True
structure RdW (w : World) (s : St) (vL : Value) (L : List S41) (vN : Value) (N : List ByteArray) (W : World) : Prop where
  rd : IsRd w (w.heap.size + 1) s W
  ret : W.heap[w.heap.size]? = some (.cells #[.slice none 0 0, .slice none 0 0] 25 (0, 0))
  pb : W.heap[w.heap.size + 1 + 1]? = some (.cells #[vL, vN] 25 (0, 0))
  rowL : Kd.R k41 41 W w.heap.size AnyK vL L
  rowN : Kd.R Kd.string 9 W w.heap.size AnyK vN N
theorem RdW.below {w : World} {s : St} {vL vN : Value} {L : List S41} {N : List ByteArray} {W : World} (h : RdW w s vL L vN N W) : Below w.heap.size w W := by
  obtain ⟨_, _, _, _, _, _, _, _, h6⟩ := h.rd
  exact h6
theorem RdW.drew {w : World} {s : St} {vL vN : Value} {L : List S41} {N : List ByteArray} {W : World} (h : RdW w s vL L vN N W) : RdW w s vL L vN N W.drew :=
  ⟨by
    obtain ⟨A, n, c, h1, h2, h3, h4, h5, h6⟩ := h.rd
    exact ⟨A, n, c, h1, h2, h3, h4, h5, below_drew h6⟩, h.ret, h.pb, Kd.R_drew h.rowL, Kd.R_drew h.rowN⟩
theorem R_fr {α : Type} {d : Kd α} {e base g : Nat} {ok : Nat → Prop} {v : Value} {xs : List α} {W W' : World} {cells : Array Value} (h : d.R e W base ok v xs) (hg : W.heap[g]? = some (.cells cells 52 (0, 0))) (ht : ∀ q, q ∈ e :: d.E → q ≠ 52) (hf : Fr g W W') : d.R e W' base ok v xs :=
  Kd.R_mono (Kd.R_step (Kd.R_types h hg ht) (fun k hk hlt => hf.block k hlt hk.2)) (fun _ hk => hk.1)
/-- The reader has gone on. -/
theorem RdW.fr {w : World} {s s' : St} {vL vN : Value} {L : List S41} {N : List ByteArray} {W W' : World} (h : RdW w s vL L vN N W) (hf : Fr (w.heap.size + 1) W W') (hr : IsRd w (w.heap.size + 1) s' W') : RdW w s' vL L vN N W' := by
  obtain ⟨A, n, c, h1, _⟩ := h.rd
  exact ⟨hr, (hf.block _ (blk_lt h.ret) (by omega)).trans h.ret, (hf.block _ (blk_lt h.pb) (by omega)).trans h.pb,
    R_fr h.rowL h1 (fun q hq => by rw [E41 q hq]; decide) hf, R_fr h.rowN h1 (fun q hq => by rw [E9 q hq]; decide) hf⟩
theorem RdW.one {w : World} {s : St} {vL vN : Value} {L : List S41} {N : List ByteArray} {W : World} (ok : okB s.1) (h : RdW w s vL L vN N W) :
    Calls Tryd.prog 21 #[.pointer (some ⟨w.heap.size + 1, 0, none⟩)] W fun e W' => e = .returned (.int .i64 (oneS s).1) ∧ RdW w (oneS s).2 vL L vN N W' :=
  (one21 w W (w.heap.size + 1) s ok h.rd).mono fun e W' ⟨he, hr, hf⟩ => ⟨he, h.fr hf hr⟩
theorem RdW.take {w : World} {s : St} {vL vN : Value} {L : List S41} {N : List ByteArray} {W : World} (m : Nat) (hm : m ≤ 1000) (h : RdW w s vL L vN N W) :
    Calls Tryd.prog 22 #[.pointer (some ⟨w.heap.size + 1, 0, none⟩), .int .i64 (m : Int)] W fun e W' => ∃ A c, e = .returned (.slice A m c) ∧ Kd.C (Kd.int .u8) W' A m (takeS m s).1 ∧ RdW w (takeS m s).2 vL L vN N W' :=
  (take22 w W (w.heap.size + 1) s m hm h.rd).mono fun e W' ⟨A, c, he, hc, hC, hr, hf⟩ => ⟨A, c, he, hC, h.fr hf hr⟩
theorem RdW.cells {w : World} {s : St} {vL vN : Value} {L : List S41} {N : List ByteArray} {W : World} (h : RdW w s vL L vN N W) :
    (∃ A c, s.1.length ≤ c ∧ W.cell? ⟨w.heap.size + 1, 0, none⟩ = some (.slice A s.1.length c)) ∧ W.cell? ⟨w.heap.size + 1, 1, none⟩ = some (.bool s.2) ∧
    W.cell? ⟨w.heap.size, 0, none⟩ = some (.slice none 0 0) ∧ W.cell? ⟨w.heap.size, 1, none⟩ = some (.slice none 0 0) ∧ W.frozen? ⟨w.heap.size, 0, none⟩ = false ∧ W.frozen? ⟨w.heap.size, 1, none⟩ = false ∧
    W.cell? ⟨w.heap.size + 1 + 1, 0, none⟩ = some vL ∧ W.cell? ⟨w.heap.size + 1 + 1, 1, none⟩ = some vN ∧ W.frozen? ⟨w.heap.size + 1 + 1, 0, none⟩ = false ∧ W.frozen? ⟨w.heap.size + 1 + 1, 1, none⟩ = false := by
  obtain ⟨A, n, c, h1, h2, h3, _⟩ := h.rd
  subst h2
  exact ⟨⟨A, c, h3, (blk_cell h1 0).trans rfl⟩, (blk_cell h1 1).trans rfl, (blk_cell h.ret 0).trans rfl, (blk_cell h.ret 1).trans rfl, blk_frozen h.ret 0, blk_frozen h.ret 1, (blk_cell h.pb 0).trans rfl, (blk_cell h.pb 1).trans rfl, blk_frozen h.pb 0, blk_frozen h.pb 1⟩
theorem IsRd.grown {w0 : World} {g : Nat} {s : St} {W W' : World} {row : Option Nat} (h : IsRd w0 g s W) (hg : W.grownBy W' row) (hr : some g ≠ row) (hb : Below w0.heap.size w0 W') : IsRd w0 g s W' := by
  obtain ⟨A, n, c, h1, h2, h3, h4, h5, h6⟩ := h
  exact ⟨A, n, c, (hg.block g (blk_lt h1) hr).trans h1, h2, h3, h4, h5, hb⟩
/-- A name more. -/
theorem RdW.nameMore {w : World} {s : St} {vL vN v1 : Value} {L : List S41} {N N1 : List ByteArray} {W w1 : World} (h : RdW w s vL L vN N W) (h1 : Kd.R Kd.string 9 w1 w.heap.size AnyK v1 N1) (hb : Below w.heap.size w w1) (hg : W.grownBy w1 vN.ownBlock) :
    RdW w s vL L v1 N1 (w1.setCell ⟨w.heap.size + 1 + 1, 1, none⟩ v1) := by
  have hN := h.rowN
  have hL := h.rowL
  have p0 := h.pb
  have r0 := h.ret
  obtain ⟨A, n, c, q1, q2, q3, q4, q5, q6⟩ := h.rd
  have q0 := q1
  have p1 := (hg.block _ (blk_lt p0) (Kd.R_ne hN p0 (by decide))).trans p0
  have r1 := (hg.block _ (blk_lt r0) (Kd.R_ne hN r0 (by decide))).trans r0
  have g1 := (hg.block _ (blk_lt q0) (Kd.R_ne hN q0 (by decide))).trans q0
  refine ⟨⟨A, n, c, blk_far (p := ⟨w.heap.size + 1 + 1, 1, none⟩) g1 (by show w.heap.size + 1 ≠ w.heap.size + 1 + 1; omega) v1, q2, q3, q4, q5, below_set hb (by omega)⟩, blk_far (p := ⟨w.heap.size + 1 + 1, 1, none⟩) r1 (by show w.heap.size ≠ w.heap.size + 1 + 1; omega) v1, blk_put p1 1 v1 rfl, ?_, ?_⟩
  · have a1 := Kd.R_apartR hL hN (fun q hq => by rw [E41 q hq]; decide)
    have a2 := Kd.R_grown a1 hg (fun k hk => hk.2)
    exact Kd.R_set (Kd.R_mono a2 (fun _ _ => trivial)) p1 (fun q hq => by rw [E41 q hq]; decide) 1 v1
  · exact Kd.R_set h1 p1 (fun q hq => by rw [E9 q hq]; decide) 1 v1
theorem RdW.instMore {w : World} {s : St} {vL vN v1 : Value} {L L1 : List S41} {N : List ByteArray} {W w1 : World} (h : RdW w s vL L vN N W) (h1 : Kd.R k41 41 w1 w.heap.size AnyK v1 L1) (hb : Below w.heap.size w w1) (hg : W.grownBy w1 vL.ownBlock) :
    RdW w s v1 L1 vN N (w1.setCell ⟨w.heap.size + 1 + 1, 0, none⟩ v1) := by
  have hN := h.rowN
  have hL := h.rowL
  have p0 := h.pb
  have r0 := h.ret
  obtain ⟨A, n, c, q1, q2, q3, q4, q5, q6⟩ := h.rd
  have q0 := q1
  have p1 := (hg.block _ (blk_lt p0) (Kd.R_ne hL p0 (by decide))).trans p0
  have r1 := (hg.block _ (blk_lt r0) (Kd.R_ne hL r0 (by decide))).trans r0
  have g1 := (hg.block _ (blk_lt q0) (Kd.R_ne hL q0 (by decide))).trans q0
  refine ⟨⟨A, n, c, blk_far (p := ⟨w.heap.size + 1 + 1, 0, none⟩) g1 (by show w.heap.size + 1 ≠ w.heap.size + 1 + 1; omega) v1, q2, q3, q4, q5, below_set hb (by omega)⟩, blk_far (p := ⟨w.heap.size + 1 + 1, 0, none⟩) r1 (by show w.heap.size ≠ w.heap.size + 1 + 1; omega) v1, blk_put p1 0 v1 rfl, ?_, ?_⟩
  · exact Kd.R_set h1 p1 (fun q hq => by rw [E41 q hq]; decide) 0 v1
  · have a1 := Kd.R_apartR hN hL (fun q hq => by rw [E9 q hq]; decide)
    have a2 := Kd.R_grown a1 hg (fun k hk => hk.2)
    exact Kd.R_set (Kd.R_mono a2 (fun _ _ => trivial)) p1 (fun q hq => by rw [E9 q hq]; decide) 0 v1
/-- At the start. -/
theorem RdW.start (A : Option Addr) (n c : Nat) (b : List Int) (w : World) (hl : b.length = n) (hc : n ≤ c) (hC : Kd.C (Kd.int .u8) w A n b) :
    RdW w (b, false) (.slice none 0 0) [] (.slice none 0 0) [] (((w.alloc (.cells #[.slice none 0 0, .slice none 0 0] 25)).alloc (.cells #[.slice A n c, .bool false] 52)).alloc (.cells #[.slice none 0 0, .slice none 0 0] 25)) := by
  have e1 : (w.alloc (.cells #[.slice none 0 0, .slice none 0 0] 25)).heap.size = w.heap.size + 1 := World.size_alloc _ _
  have e2 : ((w.alloc (.cells #[.slice none 0 0, .slice none 0 0] 25)).alloc (.cells #[.slice A n c, .bool false] 52)).heap.size = w.heap.size + 1 + 1 := by rw [World.size_alloc, e1]
  have b0 := blk_new w (.cells #[.slice none 0 0, .slice none 0 0] 25)
  have b1 := blk_new (w.alloc (.cells #[.slice none 0 0, .slice none 0 0] 25)) (.cells #[.slice A n c, .bool false] 52)
  have b2 := blk_new ((w.alloc (.cells #[.slice none 0 0, .slice none 0 0] 25)).alloc (.cells #[.slice A n c, .bool false] 52)) (.cells #[.slice none 0 0, .slice none 0 0] 25)
  rw [e1] at b1
  rw [e2] at b2
  exact ⟨⟨A, n, c, blk_alloc b1 _, hl, hc, hC, by omega, below_alloc (below_alloc (below_alloc (Below.refl _ _) _) _) _⟩, blk_alloc (blk_alloc b0 _) _, b2, Kd.R_nil _ _ _ _ _, Kd.R_nil _ _ _ _ _⟩
theorem RdW.keep {w : World} {s : St} {vL vN : Value} {L : List S41} {N : List ByteArray} {W W' : World} (h : RdW w s vL L vN N W) (hb : Below W.heap.size W W') : RdW w s vL L vN N W' :=
  ⟨h.rd.keep hb, blk_below h.ret hb, blk_below h.pb hb, Kd.R_below h.rowL hb, Kd.R_below h.rowN hb⟩
theorem retC {W : World} {g : Nat} {a b : Value} (h : W.heap[g]? = some (.cells #[a, b] 25 (0, 0))) (u v : Value) :
    ((W.setCell ⟨g, 0, none⟩ u).setCell ⟨g, 1, none⟩ v).cell? ⟨g, 0, none⟩ = some u ∧ ((W.setCell ⟨g, 0, none⟩ u).setCell ⟨g, 1, none⟩ v).cell? ⟨g, 1, none⟩ = some v := by
  have h2 : ((W.setCell ⟨g, 0, none⟩ u).setCell ⟨g, 1, none⟩ v).heap[g]? = some (.cells #[u, v] 25 (0, 0)) := blk_put (blk_put h 0 u rfl) 1 v rfl
  exact ⟨(blk_cell h2 0).trans rfl, (blk_cell h2 1).trans rfl⟩
def readP (w : World) (r : List S41 × List ByteArray × Int) (e : Ending) (w' : World) : Prop :=
  ∃ v0_ v1_ : Value, e = .returned (.tuple #[.agg #[v0_, v1_], .int .i64 r.2.2]) ∧ Kd.R k41 41 w' w.heap.size (fun _ => True) v0_ r.1 ∧ Kd.R Kd.string 9 w' w.heap.size (fun k_ => some k_ ≠ v0_.ownBlock) v1_ r.2.1 ∧ Below w.heap.size w w'
theorem oneNat (s : St) (h : okB s.1) : ∃ m : Nat, (oneS s).1 = (m : Int) ∧ m < 256 := ⟨(oneS s).1.toNat, by have := oneS_ok s h; omega, by have := oneS_ok s h; omega⟩
theorem readP_bad {w W : World} (k : Int) (u0 u1 : Value) (h : Below w.heap.size w W) : readP w ([], [], k) (.returned (.tuple #[.agg #[.slice none 0 0, .slice none 0 0], .int .i64 k])) ((W.setCell ⟨w.heap.size, 0, none⟩ u0).setCell ⟨w.heap.size, 1, none⟩ u1) :=
  ⟨_, _, rfl, Kd.R_nil _ _ _ _ _, Kd.R_nil _ _ _ _ _, below_set (below_set h (Nat.le_refl _)) (Nat.le_refl _)⟩
theorem readP_ok {w W : World} {s : St} {vL vN : Value} {L : List S41} {N : List ByteArray} (h : RdW w s vL L vN N W) (u0 u1 : Value) : readP w (L, N, 0) (.returned (.tuple #[.agg #[vL, vN], .int .i64 0])) ((W.setCell ⟨w.heap.size, 0, none⟩ u0).setCell ⟨w.heap.size, 1, none⟩ u1) := by
  have r1 := blk_put h.ret 0 u0 rfl
  have l1 := Kd.R_set (Kd.R_set h.rowL h.ret (fun q hq => by rw [E41 q hq]; decide) 0 u0) r1 (fun q hq => by rw [E41 q hq]; decide) 1 u1
  have n1 := Kd.R_set (Kd.R_set h.rowN h.ret (fun q hq => by rw [E9 q hq]; decide) 0 u0) r1 (fun q hq => by rw [E9 q hq]; decide) 1 u1
  exact ⟨_, _, rfl, Kd.R_mono l1 (fun _ _ => trivial), Kd.R_mono (Kd.R_apartR n1 l1 (fun q hq => by rw [E9 q hq]; decide)) (fun k hk => hk.2), below_set (below_set h.below (Nat.le_refl _)) (Nat.le_refl _)⟩
theorem RdW.afterN {w : World} {s : St} {vL vN : Value} {L : List S41} {N : List ByteArray} {W w1 : World} (h : RdW w s vL L vN N W) (hg : W.grownBy w1 vN.ownBlock) : w1.cell? ⟨w.heap.size + 1 + 1, 1, none⟩ = some vN ∧ w1.frozen? ⟨w.heap.size + 1 + 1, 1, none⟩ = false := by
  have p := (hg.block _ (blk_lt h.pb) (Kd.R_ne h.rowN h.pb (by decide))).trans h.pb
  exact ⟨(blk_cell p 1).trans rfl, blk_frozen p 1⟩
theorem RdW.afterL {w : World} {s : St} {vL vN : Value} {L : List S41} {N : List ByteArray} {W w1 : World} (h : RdW w s vL L vN N W) (hg : W.grownBy w1 vL.ownBlock) : w1.cell? ⟨w.heap.size + 1 + 1, 0, none⟩ = some vL ∧ w1.frozen? ⟨w.heap.size + 1 + 1, 0, none⟩ = false := by
  have p := (hg.block _ (blk_lt h.pb) (Kd.R_ne h.rowL h.pb (by decide))).trans h.pb
  exact ⟨(blk_cell p 0).trans rfl, blk_frozen p 0⟩
theorem or8 (n d : Int) (h0 : 0 ≤ n) (h1 : n < 256) (h2 : 0 ≤ d) (h3 : d < 256) : Go.bits .or .i64 (IntKind.i64.wrap (IntKind.i64.wrap n * 256)) (IntKind.i64.wrap d) = n * 256 + d := by
  have e1 : IntKind.i64.wrap n = n := by rw [IntKind.wrap_i64]; omega
  have e2 : IntKind.i64.wrap d = d := by rw [IntKind.wrap_i64]; omega
  have e3 : IntKind.i64.wrap (n * 256) = n * 256 := by rw [IntKind.wrap_i64]; omega
  rw [e1, e2, e3]
  refine bits_join .i64 62 (by decide) (fun n h0 h1 => ?_) 8 (n * 256) d (by omega) (by omega) (by omega) h2 (by omega) (by omega)
  rw [IntKind.wrap_i64]
  omega
theorem inst_raw (b0 b1 b2 : Int) (h0 : 0 ≤ b0 ∧ b0 < 256) (h1 : 0 ≤ b1 ∧ b1 < 256) (h2 : 0 ≤ b2 ∧ b2 < 256) : (⟨IntKind.i64.wrap b0, Go.bits .or .i64 (IntKind.i64.wrap (IntKind.i64.wrap b1 * 256)) (IntKind.i64.wrap b2)⟩ : S41) = ⟨b0, b1 * 256 + b2⟩ := by
  rw [or8 b1 b2 h1.1 h1.2 h2.1 h2.2, show IntKind.i64.wrap b0 = b0 by rw [IntKind.wrap_i64]; omega]
end Go.Proofs.YtckmgoeflecpgaaDoor.G
