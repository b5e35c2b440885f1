/- Fails: New, Next, Used, walked by hand. -/
import Derived.Test.YtpjnacblaipljaaPx2
import Derived.Test.YtpjnacblaipljaaGClone
namespace Go.Proofs.Ytpjnacblaipljaa.Fails
set_option linter.unusedVariables false
set_option linter.unusedSimpArgs false
open Go.RowKit Go.Proofs.YtpjnacblaipljaaW.PrintWords Go.Proofs.YtpjnacblaipljaaW.PrintLast Go.Proofs.YtpjnacblaipljaaW.PrintMore

theorem heap_new (w : World) (o : Obj) : (w.alloc o).heap[w.heap.size]? = some o := by
  show (w.heap.push o)[w.heap.size]? = some o
  exact Array.getElem?_push_size
/-- Which calls fail, in memory: the struct's own block, and the row. -/
def F (w : World) (base g : Nat) (v : Value) (l : List Bool) (at_ : Int) : Prop :=
  w.heap[g]? = some (.cells #[v, .int .i64 at_] 51 (0, 0)) ∧ base ≤ g ∧ Kd.R Kd.bool 4 w base (fun _ => True) v l

theorem F_cells {w : World} {base g : Nat} {v : Value} {l : List Bool} {k : Int} (h : F w base g v l k) : w.cell? ⟨g, 0, none⟩ = some v ∧ w.cell? ⟨g, 1, none⟩ = some (.int .i64 k) := by
  constructor <;> simp [World.cell?, h.1]

theorem F_below {w w1 : World} {base g : Nat} {v : Value} {l : List Bool} {k : Int} (h : F w base g v l k) (hb : Below w.heap.size w w1) : F w1 base g v l k :=
  ⟨by rw [hb.block g (lt_of_block h.1)]; exact h.1, h.2.1, Kd.R_below h.2.2 hb⟩
theorem F_drewN {w : World} {base g : Nat} {v : Value} {l : List Bool} {k : Int} (h : F w base g v l k) (n : Nat) : F (w.drewN n) base g v l k := F_below h (pw_below_drewN (Below.refl _ _) n)
/-- One goes on: another does not. -/
theorem F_other {w : World} {base g : Nat} {v : Value} {l : List Bool} {k : Int} (h : F w base g v l k) {base' g' : Nat} {v' : Value} {l' : List Bool} {k' : Int} (h' : F w base' g' v' l' k') (hn : g' ≠ g) (u : Value) : F (w.setCell ⟨g, 1, none⟩ u) base' g' v' l' k' :=
  ⟨by rw [heap_setCell_other w ⟨g, 1, none⟩ g' u hn]; exact h'.1, h'.2.1, Kd.R_set h'.2.2 h.1 (by intro q hq; have : q ∈ [4] := hq; simp at this; omega) 1 _⟩

theorem F_step {w : World} {base g : Nat} {v : Value} {l : List Bool} {k : Int} (h : F w base g v l k) (k' : Int) : F (w.setCell ⟨g, 1, none⟩ (.int .i64 k')) base g v l k' := by
  obtain ⟨h1, h2, h3⟩ := h
  refine ⟨?_, h2, Kd.R_set h3 h1 (by intro q hq; have : q ∈ [4] := hq; simp at this; omega) 1 _⟩
  have := heap_setCell_same w g 1 _ 51 (.int .i64 k') h1
  simpa using this

set_option maxRecDepth 100000 in
set_option maxHeartbeats 1600000 in
theorem used_calls (w : World) (base g : Nat) (v : Value) (l : List Bool) (k : Int) (h : F w base g v l k) :
    Calls Try.prog 15 #[.pointer (some ⟨g, 0, none⟩)] w fun e w' => e = .returned (.int .i64 k) ∧ Drawn0 w w' := by
  obtain ⟨h0, h1⟩ := F_cells h
  go_enter Try.func15, Try.ntmps15
  go_wp2
  go_ret
  exact ⟨rfl, by repeat (first | exact Drawn0.refl _ | apply Drawn0.step)⟩

set_option maxRecDepth 100000 in
set_option maxHeartbeats 1600000 in
theorem next_end (w : World) (base g : Nat) (v : Value) (l : List Bool) (h : F w base g v l l.length) :
    Calls Try.prog 14 #[.pointer (some ⟨g, 0, none⟩)] w fun e w' => e = .returned (.bool false) ∧ Drawn0 w w' := by
  obtain ⟨h0, h1⟩ := F_cells h
  obtain ⟨A, c, rfl⟩ := Kd.R_slice h.2.2
  go_enter Try.func14, Try.ntmps14
  go_wp2
  repeat (go_quiet (fail); try go_wp2)
  go_ret
  exact ⟨rfl, by repeat (first | exact Drawn0.refl _ | apply Drawn0.step)⟩

set_option maxRecDepth 100000 in
set_option maxHeartbeats 1600000 in
theorem next_more (w : World) (base g : Nat) (v : Value) (l : List Bool) (k : Int) (h : F w base g v l k) (k0 : 0 ≤ k) (k1 : k < l.length) (kw : wrap64 (k + 1) = k + 1) :
    Calls Try.prog 14 #[.pointer (some ⟨g, 0, none⟩)] w fun e w' => e = .returned (.bool (l.getD k.toNat false)) ∧ ∃ n, w' = (w.setCell ⟨g, 1, none⟩ (.int .i64 (k + 1))).drewN n := by
  obtain ⟨h0, h1⟩ := F_cells h
  obtain ⟨A, c, rfl, hc, hr⟩ := Kd.R_reads h.2.2
  have hF := F_step h (k + 1)
  have hfree : w.frozen? ⟨g, 1, none⟩ = false := by simp [World.frozen?, h.1]
  obtain ⟨g0, g1⟩ := F_cells hF
  obtain ⟨A', c', he, _, hr'⟩ := Kd.R_reads hF.2.2
  obtain ⟨rfl, _, rfl⟩ : A = A' ∧ l.length = l.length ∧ c = c' := by injection he with a b d; exact ⟨a, b, d⟩
  obtain ⟨ad, u, rfl, hl, hk, hu⟩ := ReadsRow.get_ hr' false k k0 k1
  have hk' : u = [.bool (l.getD k.toNat false)] := hk
  subst hk'
  have hcell := hu 0 _ rfl
  rw [show k.toNat * Kd.bool.sz + 0 = k.toNat from by show k.toNat * 1 + 0 = k.toNat; omega] at hcell
  have hne : (k == (l.length : Int)) = false := beq_eq_false_iff_ne.mpr (by omega)
  have hb : 0 ≤ k ∧ k < (l.length : Int) := ⟨k0, k1⟩
  have hback : IntKind.i64.wrap k = k := by rw [IntKind.wrap_i64]; unfold wrap64 at kw; omega
  have q0 : ∀ n, ((w.drewN n).setCell ⟨g, 1, none⟩ (.int .i64 (k + 1))).cell? ⟨g, 0, none⟩ = some (.slice (some ad) l.length c) := fun n => g0
  have q1 : ∀ n, ((w.drewN n).setCell ⟨g, 1, none⟩ (.int .i64 (k + 1))).cell? ⟨g, 1, none⟩ = some (.int .i64 (k + 1)) := fun n => g1
  obtain ⟨x, hx⟩ : ∃ x, x = l.getD k.toNat false := ⟨_, rfl⟩
  rw [← hx] at hcell ⊢
  clear hx
  have q2 : ∀ n, ((w.drewN n).setCell ⟨g, 1, none⟩ (.int .i64 (k + 1))).cell? (ad.add k.toNat) = some (.bool x) := fun n => hcell
  clear hu hl hk h hF he hr hr' hc g0 g1 hcell
  go_enter Try.func14, Try.ntmps14
  go_wp2
  go_quiet (fail)
  go_wp2
  rw [kw]
  go_quiet (fail)
  go_wp2
  go_ret
  exact ⟨rfl, _, (World.drewN_drewN (w.setCell ⟨g, 1, none⟩ (.int .i64 (k + 1))) _ _)⟩

set_option maxRecDepth 100000 in
set_option maxHeartbeats 1600000 in
theorem new_calls (A : Option Addr) (c : Nat) (l : List Bool) (w : World) (hr : Kd.C Kd.bool w A l.length l) (hc : l.length ≤ c) (hl : l.length < 140737488355328) :
    Calls Try.prog 13 #[.slice A l.length c] w fun e w' => ∃ g v, e = .returned (.pointer (some ⟨g, 0, none⟩)) ∧ F w' w.heap.size g v l 0 ∧ Below w.heap.size w w' := by
  have hf : G.slices_Clone_bool_bool.f l = some l := by unfold G.slices_Clone_bool_bool.f; rw [if_pos hl]
  go_enter Try.func13, Try.ntmps13
  go_wp2_with (go_at_call 24; (with_reducible refine (G.slices_Clone_bool_bool.calls A c l l _ hr hc hf).mono ?_); rintro e w' ⟨v0, rfl, hR, hB⟩; obtain ⟨A', c', rfl⟩ := Kd.R_slice hR)
  go_ret
  exact ⟨_, _, rfl, ⟨heap_new w' _, hB.size, Kd.R_alloc hR _⟩, hB.alloc hB.size _⟩
end Go.Proofs.Ytpjnacblaipljaa.Fails
