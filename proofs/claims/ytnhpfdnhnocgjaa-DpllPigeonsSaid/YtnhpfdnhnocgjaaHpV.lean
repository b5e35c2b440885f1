/- What the laws' walks want: rows of the call's own that come in, Solve without a bound. -/
import Derived.Test.YtnhpfdnhnocgjaaHpU
import Derived.Test.YtnhpfdnhnocgjaaDpH
namespace Go.Proofs.Ytnhpfdnhnocgjaa.S
open Go.RowKit Go.Proofs.Ytnhpfdnhnocgjaa.D Go.Proofs.Ytnhpfdnhnocgjaa.Lem Go.Proofs.YtnhpfdnhnocgjaaW.PrintWords Go.Proofs.YtnhpfdnhnocgjaaW.PrintLast Go.Proofs.YtnhpfdnhnocgjaaW.PrintMore
set_option linter.unusedVariables false
set_option linter.unusedSimpArgs false
abbrev kRow : Kd (List Int) := Kd.slice 3 (Kd.int .i64)
theorem ok_w64 {N : Nat} {x : Int} (h : okL N x) (hN : N ≤ 65536) : W64 x := by
  have h1 := h.1
  have h2 := h.2
  unfold W64
  omega
theorem came_ok {F : List (List Int)} {N : Nat} (hN : N ≤ 65536) (hF : ∀ d ∈ F, ∀ x ∈ d, okL N x) (hl : F.length ≤ 5864062014804) (hr : ∀ d ∈ F, d.length < 17592186044416) : Came F :=
  ⟨by omega, fun c hc => ⟨by have := hr c hc; omega, fun x hx => ok_w64 (hF c hc x hx) hN⟩⟩
theorem In.own {w : World} {base : Nat} {ok : Nat → Prop} {A : Option Addr} {n c : Nat} {F : List (List Int)} {N : Nat} (h : kRow.R 37 w base ok (.slice A n c) F) (hN : N ≤ 65536) (hF : ∀ d ∈ F, ∀ x ∈ d, okL N x) (hl : F.length ≤ 5864062014804) (hr : ∀ d ∈ F, d.length < 17592186044416) : n = F.length ∧ In w A c F := by
  obtain ⟨h1, h2, h3⟩ := Kd.R_reads' h
  exact ⟨h1, h3, by omega, came_ok hN hF hl hr, hl, hr⟩
theorem may_of {N : Nat} {F : List (List Int)} (hN : N ≤ 65536) (hF : ∀ d ∈ F, ∀ x ∈ d, okL N x) : mayB (N : Int) F = true :=
  (mayB_iff _ _).2 ⟨by omega, by omega, by rw [Int.toNat_natCast]; exact hF⟩
theorem SolveR.full {N : Nat} {F : List (List Int)} {r code : Int} {a : List Bool} (h : SolveR (N : Int) F 1099511627776 r a code) (hm : mayB (N : Int) F = true) :
    code = 0 ∧ ((r = 1 ∧ a.length = N ∧ satF (bitsOf a) F = true) ∨ (r = 2 ∧ a = [] ∧ ∀ s, satF s F = false)) := by
  rcases h with ⟨h, _⟩ | ⟨_, _, hc, h | h | h⟩
  · exact absurd ⟨hm, by decide⟩ h
  · exact ⟨hc, .inl ⟨h.1, by rw [h.2.1, Int.toNat_natCast], h.2.2⟩⟩
  · exact ⟨hc, .inr h⟩
  · exact absurd h.2.2.1 (by decide)
/-- One row is written on, the other one is not it. -/
theorem R_two {α : Type} {d : Kd α} {e base : Nat} {W w1 : World} {u v v1 : Value} {xs : List α} (h : d.R e W base (fun k => some k ≠ v.ownBlock) u xs) (hg : W.grownBy w1 v.ownBlock) (hat : v1.ownBlock = v.ownBlock ∨ ∃ b, v1.ownBlock = some b ∧ W.heap.size ≤ b) : d.R e w1 base (fun k => some k ≠ v1.ownBlock) u xs :=
  Kd.R_mono (Kd.R_after (ok := fun _ => True) (Kd.R_mono h fun _ hk => ⟨trivial, hk⟩) hg hat) fun _ hk => hk.2
theorem size1 (w : World) (o : Obj) : (w.alloc o).heap.size = w.heap.size + 1 := by simp
/-- A row that is written out. -/
theorem lit_own (W : World) (L : List Int) (hl : L.length ≤ 1000) {base : Nat} (hb : base ≤ W.heap.size) : (Kd.int .i64).R 3 (W.alloc (.cells (L.map (Value.int .i64)).toArray 3)) base (fun k => W.heap.size ≤ k) (.slice (some ⟨W.heap.size, 0, none⟩) L.length L.length) L := by
  have hk := blk_new W (.cells (L.map (Value.int .i64)).toArray 3)
  refine Kd.R_of_own ⟨by unfold encs; rw [List.length_map, Nat.mul_one], .inr ⟨W.heap.size, L.length, _, rfl, hb, hk, Nat.le_refl _, by unfold maxLen; omega, by rw [Nat.mul_one]; simp, ?_⟩⟩ (fun k hk => by simp [Value.ownBlock] at hk; omega)
  rw [Nat.mul_one]
  unfold encs
  exact List.take_of_length_le (by simp)
theorem int_apart {w : World} {base base' : Nat} {ok ok' : Nat → Prop} {u v : Value} {L : List Int} {F : List (List Int)} (h : (Kd.int .i64).R 3 w base ok u L) (hv : kRow.R 37 w base' ok' v F) : (Kd.int .i64).R 3 w base (fun k => some k ≠ v.ownBlock) u L :=
  Kd.R_mono (Kd.R_apartR h hv (fun q hq => by
    have : q = 3 := by simpa [Kd.int, Kd.scalar] using hq
    omega)) fun _ hk => hk.2
theorem new_apart {w : World} {base : Nat} {ok : Nat → Prop} {v : Value} {F : List (List Int)} (hv : kRow.R 37 w base ok v F) (k : Nat) (hk : w.heap.size ≤ k) : True ∧ some k ≠ v.ownBlock := ⟨trivial, fun e => by have := Kd.R_lt hv k e.symm; omega⟩
theorem wfu8 {n : Int} (h : (Lit.int .u8 n).wf = true) : 0 ≤ n ∧ n ≤ 255 := by
  simp [Lit.wf, IntKind.min, IntKind.max, IntKind.bits, IntKind.signed] at h
  omega
theorem wfu16 {n : Int} (h : (Lit.int .u16 n).wf = true) : 0 ≤ n ∧ n ≤ 65535 := by
  simp [Lit.wf, IntKind.min, IntKind.max, IntKind.bits, IntKind.signed] at h
  omega
theorem wfu32 {n : Int} (h : (Lit.int .u32 n).wf = true) : 0 ≤ n ∧ n ≤ 4294967295 := by
  simp [Lit.wf, IntKind.min, IntKind.max, IntKind.bits, IntKind.signed] at h
  omega
end Go.Proofs.Ytnhpfdnhnocgjaa.S
