/- Joined by a program of this session out of: HpR, HpS. -/
import Derived.Test.YtnhpfdnhnocgjaaHpQ
/- Formulas that a law builds by hand; awake. -/
namespace Go.Proofs.Ytnhpfdnhnocgjaa.S
open Go.RowKit Go.Proofs.Ytnhpfdnhnocgjaa.D Go.Proofs.Ytnhpfdnhnocgjaa.Lem Go.Proofs.YtnhpfdnhnocgjaaW.PrintWords Go.Proofs.YtnhpfdnhnocgjaaW.PrintLast Go.Proofs.YtnhpfdnhnocgjaaW.PrintMore
set_option linter.unusedVariables false
set_option linter.unusedSimpArgs false
/-- A row of one cell an element, by its block. -/
theorem C_cells {α : Type} {d : Kd α} {W : World} {g t : Nat} {m : Nat × Nat} {L : List α} {V : List Value} (hs : d.sz = 1) (hn : L.length ≤ 1000000) (hk : ∀ (j : Nat) (x : α), L[j]? = some x → ∃ v, V[j]? = some v ∧ d.K W x [v]) (hg : W.heap[g]? = some (.cells V.toArray t m)) : Kd.C d W (some ⟨g, 0, none⟩) L.length L := by
  refine ⟨rfl, by omega, fun _ => ⟨_, rfl, fun j p hj => ?_⟩⟩
  obtain ⟨v, hv, hK⟩ := hk j p hj
  refine ⟨[v], by rw [hs]; rfl, hK, fun i u hu => ?_⟩
  have hi : i = 0 := by have := lt_of hu; simp at this; omega
  subst hi
  injection hu with hu
  subst hu
  have e : (⟨g, 0, none⟩ : Addr).add (j * d.sz + 0) = ⟨g, j, none⟩ := by
    rw [hs]
    unfold Addr.add
    by_cases h : j = 0
    · subst h; rfl
    · rw [if_neg (by omega)]; simp
  rw [e]
  unfold World.cell?
  rw [hg]
  simpa using hv
theorem C_ints {W : World} {g t : Nat} {m : Nat × Nat} (L : List Int) (hn : L.length ≤ 1000000) (hg : W.heap[g]? = some (.cells (L.map (Value.int .i64)).toArray t m)) : Kd.C (Kd.int .i64) W (some ⟨g, 0, none⟩) L.length L :=
  C_cells rfl hn (fun j x hx => ⟨.int .i64 x, by rw [List.getElem?_map, hx]; rfl, rfl⟩) hg
/-- Rows of rows. -/
theorem C_rows {W : World} {g t : Nat} {m : Nat × Nat} {F : List (List Int)} {V : List Value} (hn : F.length ≤ 1000000) (hk : ∀ (j : Nat) (c : List Int), F[j]? = some c → ∃ A k, V[j]? = some (.slice A c.length k) ∧ c.length ≤ k ∧ Kd.C (Kd.int .i64) W A c.length c) (hg : W.heap[g]? = some (.cells V.toArray t m)) : Kd.C (Kd.slice 3 (Kd.int .i64)) W (some ⟨g, 0, none⟩) F.length F :=
  C_cells rfl hn (fun j x hx => by
    obtain ⟨A, k, h1, h2, h3⟩ := hk j x hx
    exact ⟨_, h1, A, k, rfl, h2, h3⟩) hg
def F3 : List (List Int) := [[1, 2], [-1], [-2]]
def F2 : List (List Int) := [[1, 2], [-1]]
def F1 : List (List Int) := [[1, 2]]
theorem came_of {F : List (List Int)} (h : (decide (F.length ≤ 1000000) && F.all fun c => decide (c.length ≤ 1000000) && c.all fun v => decide (-1000000 ≤ v ∧ v ≤ 1000000)) = true) : Came F ∧ F.length ≤ 5864062014804 ∧ ∀ d ∈ F, d.length < 17592186044416 := by
  rw [Bool.and_eq_true, List.all_eq_true] at h
  obtain ⟨h1, h2⟩ := h
  have h1 := of_decide_eq_true h1
  refine ⟨⟨by omega, fun c hc => ?_⟩, by omega, fun c hc => ?_⟩
  · have := h2 c hc
    rw [Bool.and_eq_true, List.all_eq_true] at this
    refine ⟨by have := of_decide_eq_true this.1; omega, fun v hv => ?_⟩
    have := of_decide_eq_true (this.2 v hv)
    unfold W64; omega
  · have := h2 c hc
    rw [Bool.and_eq_true] at this
    have := of_decide_eq_true this.1
    omega
theorem in3 (w : World) : In ((((w.alloc (.cells #[.int .i64 1, .int .i64 2] 3)).alloc (.cells #[.int .i64 (-1)] 3)).alloc (.cells #[.int .i64 (-2)] 3)).alloc (.cells #[.slice (some ⟨w.heap.size, 0, none⟩) 2 2, .slice (some ⟨w.heap.size + 1, 0, none⟩) 1 1, .slice (some ⟨w.heap.size + 1 + 1, 0, none⟩) 1 1] 37)) (some ⟨w.heap.size + 1 + 1 + 1, 0, none⟩) 3 F3 := by
  obtain ⟨b1, b2, b3, b4, _⟩ := four w (.cells #[.int .i64 1, .int .i64 2] 3) (.cells #[.int .i64 (-1)] 3) (.cells #[.int .i64 (-2)] 3) (.cells #[.slice (some ⟨w.heap.size, 0, none⟩) 2 2, .slice (some ⟨w.heap.size + 1, 0, none⟩) 1 1, .slice (some ⟨w.heap.size + 1 + 1, 0, none⟩) 1 1] 37)
  obtain ⟨h1, h2, h3⟩ := came_of (F := F3) (by decide)
  refine ⟨C_rows (F := F3) (by decide) (fun j c hj => ?_) b4, Nat.le_refl _, h1, h2, h3⟩
  match j, hj with
  | 0, hj => injection hj with hj; subst hj; exact ⟨_, _, rfl, Nat.le_refl _, C_ints [1, 2] (by decide) b1⟩
  | 1, hj => injection hj with hj; subst hj; exact ⟨_, _, rfl, Nat.le_refl _, C_ints [-1] (by decide) b2⟩
  | 2, hj => injection hj with hj; subst hj; exact ⟨_, _, rfl, Nat.le_refl _, C_ints [-2] (by decide) b3⟩
  | j + 3, hj => simp [F3] at hj
theorem three (w : World) (o1 o2 o3 : Obj) : (((w.alloc o1).alloc o2).alloc o3).heap[w.heap.size]? = some o1 ∧ (((w.alloc o1).alloc o2).alloc o3).heap[w.heap.size + 1]? = some o2 ∧ (((w.alloc o1).alloc o2).alloc o3).heap[w.heap.size + 1 + 1]? = some o3 := by
  have e1 : (w.alloc o1).heap.size = w.heap.size + 1 := by simp
  have e2 : ((w.alloc o1).alloc o2).heap.size = w.heap.size + 1 + 1 := by simp
  have b1 := blk_new w o1
  have b2 := blk_new (w.alloc o1) o2
  have b3 := blk_new ((w.alloc o1).alloc o2) o3
  rw [e1] at b2
  rw [e2] at b3
  exact ⟨blk_alloc (blk_alloc b1 _) _, blk_alloc b2 _, b3⟩
theorem two_ (w : World) (o1 o2 : Obj) : ((w.alloc o1).alloc o2).heap[w.heap.size]? = some o1 ∧ ((w.alloc o1).alloc o2).heap[w.heap.size + 1]? = some o2 := by
  have e1 : (w.alloc o1).heap.size = w.heap.size + 1 := by simp
  have b1 := blk_new w o1
  have b2 := blk_new (w.alloc o1) o2
  rw [e1] at b2
  exact ⟨blk_alloc b1 _, b2⟩
theorem in2 (w : World) : In (((w.alloc (.cells #[.int .i64 1, .int .i64 2] 3)).alloc (.cells #[.int .i64 (-1)] 3)).alloc (.cells #[.slice (some ⟨w.heap.size, 0, none⟩) 2 2, .slice (some ⟨w.heap.size + 1, 0, none⟩) 1 1] 37)) (some ⟨w.heap.size + 1 + 1, 0, none⟩) 2 F2 := by
  obtain ⟨b1, b2, b4⟩ := three w (.cells #[.int .i64 1, .int .i64 2] 3) (.cells #[.int .i64 (-1)] 3) (.cells #[.slice (some ⟨w.heap.size, 0, none⟩) 2 2, .slice (some ⟨w.heap.size + 1, 0, none⟩) 1 1] 37)
  obtain ⟨h1, h2, h3⟩ := came_of (F := F2) (by decide)
  refine ⟨C_rows (F := F2) (by decide) (fun j c hj => ?_) b4, Nat.le_refl _, h1, h2, h3⟩
  match j, hj with
  | 0, hj => injection hj with hj; subst hj; exact ⟨_, _, rfl, Nat.le_refl _, C_ints [1, 2] (by decide) b1⟩
  | 1, hj => injection hj with hj; subst hj; exact ⟨_, _, rfl, Nat.le_refl _, C_ints [-1] (by decide) b2⟩
  | j + 2, hj => simp [F2] at hj
theorem in1 (w : World) : In ((w.alloc (.cells #[.int .i64 1, .int .i64 2] 3)).alloc (.cells #[.slice (some ⟨w.heap.size, 0, none⟩) 2 2] 37)) (some ⟨w.heap.size + 1, 0, none⟩) 1 F1 := by
  obtain ⟨b1, b4⟩ := two_ w (.cells #[.int .i64 1, .int .i64 2] 3) (.cells #[.slice (some ⟨w.heap.size, 0, none⟩) 2 2] 37)
  obtain ⟨h1, h2, h3⟩ := came_of (F := F1) (by decide)
  refine ⟨C_rows (F := F1) (by decide) (fun j c hj => ?_) b4, Nat.le_refl _, h1, h2, h3⟩
  match j, hj with
  | 0, hj => injection hj with hj; subst hj; exact ⟨_, _, rfl, Nat.le_refl _, C_ints [1, 2] (by decide) b1⟩
  | j + 1, hj => simp [F1] at hj
theorem s3 {r : Int} {a : List Bool} {code : Int} (h : SolveR 2 F3 1000 r a code) : r = 2 ∧ a = [] ∧ code = 0 := by
  rcases h with ⟨h, _⟩ | ⟨_, _, hc, h | h | h⟩
  · exact absurd ⟨by decide, by decide⟩ h
  · obtain ⟨_, _, h⟩ := h
    exfalso
    have e : satF (bitsOf a) F3 = ((bitsOf a 1 == true || (bitsOf a 2 == true || false) ) && ((bitsOf a 1 == false || false) && ((bitsOf a 2 == false || false) && true))) := rfl
    rw [e] at h
    revert h
    cases bitsOf a 1 <;> cases bitsOf a 2 <;> decide
  · exact ⟨h.1, h.2.1, hc⟩
  · exfalso
    have := h.2.2.2.1
    revert this
    decide
theorem s2 {r : Int} {a : List Bool} {code : Int} (h : SolveR 2 F2 1000 r a code) : r = 1 ∧ a = [false, true] ∧ code = 0 := by
  rcases h with ⟨h, _⟩ | ⟨_, _, hc, h | h | h⟩
  · exact absurd ⟨by decide, by decide⟩ h
  · obtain ⟨h0, hl, h⟩ := h
    refine ⟨h0, ?_, hc⟩
    have e : satF (bitsOf a) F2 = ((bitsOf a 1 == true || (bitsOf a 2 == true || false) ) && ((bitsOf a 1 == false || false) && true)) := rfl
    rw [e] at h
    match a, hl with
    | [x, y], _ =>
      revert h
      cases x <;> cases y <;> decide
  · exfalso
    have := h.2.2 (fun k => decide (k = 2))
    revert this
    decide
  · exfalso
    have := h.2.2.2.1
    revert this
    decide
theorem c1 : countV 2 F1 9 = (3, 0) := by decide +kernel
end Go.Proofs.Ytnhpfdnhnocgjaa.S
/- awake: walked over what Solve and Count answer. -/
namespace Go.Proofs.Ytnhpfdnhnocgjaa.S
open Go.RowKit Go.Proofs.Ytnhpfdnhnocgjaa.D Go.Proofs.Ytnhpfdnhnocgjaa.Lem Go.Proofs.YtnhpfdnhnocgjaaW.PrintWords Go.Proofs.YtnhpfdnhnocgjaaW.PrintLast Go.Proofs.YtnhpfdnhnocgjaaW.PrintMore
set_option linter.unusedVariables false
set_option linter.unusedSimpArgs false
theorem bool2 {w : World} {base : Nat} {ok : Nat → Prop} {v : Value} {x y : Bool} (h : Kd.R Kd.bool 4 w base ok v [x, y]) : ∃ g cap, v = .slice (some ⟨g, 0, none⟩) 2 cap ∧ base ≤ g ∧ w.cell? ⟨g, 0, none⟩ = some (.bool x) ∧ w.cell? ⟨g, 1, none⟩ = some (.bool y) := by
  obtain ⟨g, cap, rfl, hg, _⟩ := Kd.R_form h (by simp)
  exact ⟨g, cap, rfl, hg, (Kd.R_celln false h 0 (by omega) (by simp)).1, (Kd.R_celln false h 1 (by omega) (by simp)).1⟩
theorem nil_of {w : World} {base : Nat} {ok : Nat → Prop} {v : Value} (h : Kd.R Kd.bool 4 w base ok v []) : ∃ A c, v = .slice A 0 c := by
  obtain ⟨A, c, e⟩ := Kd.R_slice h
  exact ⟨A, c, e⟩
theorem call3 (w : World) : Calls Try.prog 12 #[.int .i64 2, .slice (some ⟨w.heap.size + 1 + 1 + 1, 0, none⟩) 3 3, .int .i64 1000] ((((w.alloc (.cells #[.int .i64 1, .int .i64 2] 3)).alloc (.cells #[.int .i64 (-1)] 3)).alloc (.cells #[.int .i64 (-2)] 3)).alloc (.cells #[.slice (some ⟨w.heap.size, 0, none⟩) 2 2, .slice (some ⟨w.heap.size + 1, 0, none⟩) 1 1, .slice (some ⟨w.heap.size + 1 + 1, 0, none⟩) 1 1] 37)) fun e w' => ∃ A c, e = .returned (.tuple #[.int .i64 2, .slice A 0 c, .int .i64 0]) ∧ Below w.heap.size w w' := by
  refine (solve12 (in3 w) 2 1000).mono ?_
  rintro e w' ⟨r, v, a, code, rfl, hR, hb, hS⟩
  obtain ⟨rfl, rfl, rfl⟩ := s3 hS
  obtain ⟨A, c, rfl⟩ := nil_of hR
  have h0 : Below w.heap.size w ((((w.alloc (.cells #[.int .i64 1, .int .i64 2] 3)).alloc (.cells #[.int .i64 (-1)] 3)).alloc (.cells #[.int .i64 (-2)] 3)).alloc (.cells #[.slice (some ⟨w.heap.size, 0, none⟩) 2 2, .slice (some ⟨w.heap.size + 1, 0, none⟩) 1 1, .slice (some ⟨w.heap.size + 1 + 1, 0, none⟩) 1 1] 37)) := by repeat (first | exact Below.refl _ _ | apply below_alloc)
  exact ⟨A, c, rfl, h0.trans (hb.mono h0.size)⟩
theorem call2 (w : World) : Calls Try.prog 12 #[.int .i64 2, .slice (some ⟨w.heap.size + 1 + 1, 0, none⟩) 2 2, .int .i64 1000] (((w.alloc (.cells #[.int .i64 1, .int .i64 2] 3)).alloc (.cells #[.int .i64 (-1)] 3)).alloc (.cells #[.slice (some ⟨w.heap.size, 0, none⟩) 2 2, .slice (some ⟨w.heap.size + 1, 0, none⟩) 1 1] 37)) fun e w' => ∃ g c, e = .returned (.tuple #[.int .i64 1, .slice (some ⟨g, 0, none⟩) 2 c, .int .i64 0]) ∧ w'.cell? ⟨g, 0, none⟩ = some (.bool false) ∧ w'.cell? ⟨g, 1, none⟩ = some (.bool true) ∧ Below w.heap.size w w' := by
  refine (solve12 (in2 w) 2 1000).mono ?_
  rintro e w' ⟨r, v, a, code, rfl, hR, hb, hS⟩
  obtain ⟨rfl, rfl, rfl⟩ := s2 hS
  obtain ⟨g, c, rfl, _, x0, x1⟩ := bool2 hR
  have h0 : Below w.heap.size w (((w.alloc (.cells #[.int .i64 1, .int .i64 2] 3)).alloc (.cells #[.int .i64 (-1)] 3)).alloc (.cells #[.slice (some ⟨w.heap.size, 0, none⟩) 2 2, .slice (some ⟨w.heap.size + 1, 0, none⟩) 1 1] 37)) := by repeat (first | exact Below.refl _ _ | apply below_alloc)
  exact ⟨g, c, rfl, x0, x1, h0.trans (hb.mono h0.size)⟩
theorem call1 (w : World) : Calls Try.prog 16 #[.int .i64 2, .slice (some ⟨w.heap.size + 1, 0, none⟩) 1 1, .int .i64 9] ((w.alloc (.cells #[.int .i64 1, .int .i64 2] 3)).alloc (.cells #[.slice (some ⟨w.heap.size, 0, none⟩) 2 2] 37)) fun e w' => e = .returned (.tuple #[.int .i64 3, .int .i64 0]) ∧ Below w.heap.size w w' := by
  refine (count16 (in1 w) 2 9 (by omega)).mono ?_
  rintro e w' ⟨rfl, hb⟩
  have h0 : Below w.heap.size w ((w.alloc (.cells #[.int .i64 1, .int .i64 2] 3)).alloc (.cells #[.slice (some ⟨w.heap.size, 0, none⟩) 2 2] 37)) := by repeat (first | exact Below.refl _ _ | apply below_alloc)
  exact ⟨by rw [c1], h0.trans (hb.mono h0.size)⟩
set_option maxRecDepth 100000 in
set_option maxHeartbeats 4000000 in
theorem awake10 (w : World) : Calls Try.prog 10 #[] w fun e w' => e = .returned (.bool true) ∧ Below w.heap.size w w' := by
  go_enter Try.func10, Try.ntmps10
  go_upto_region 2 with (go_at_call 12; refine (call3 _).mono ?_; rintro e w1 ⟨A1, c1, rfl, hb1⟩; have HB1 := Aside0.mk hb1; clear hb1)
  go_upto_region 3 with (go_at_call 12; refine (call2 _).mono ?_; rintro e w2 ⟨g, c2, rfl, x0, x1, hb2⟩; have HB2 := Aside0.mk hb2; clear hb2)
  have hg : g < w2.heap.size := World.block_lt_of_cell? _ _ x0
  have HX : Aside0 (∀ W, Below w2.heap.size w2 W → W.cell? ⟨g, 0, none⟩ = some (.bool false) ∧ W.cell? ⟨g, 1, none⟩ = some (.bool true)) := ⟨fun W hb => ⟨cell_later hb x0, cell_later hb x1⟩⟩
  clear x0 x1 hg
  go_upto_region 4 with (go_at_call 16; refine (call1 _).mono ?_; rintro e w3 ⟨rfl, hb3⟩; obtain ⟨y0, y1⟩ := HX.out _ hb3; have HB3 := Aside0.mk hb3; clear hb3)
  go_wp2_with fail
  go_ret
  exact ⟨rfl, (HB1.out.trans (HB2.out.mono HB1.out.size)).trans (HB3.out.mono (Nat.le_trans HB1.out.size HB2.out.size))⟩
end Go.Proofs.Ytnhpfdnhnocgjaa.S
