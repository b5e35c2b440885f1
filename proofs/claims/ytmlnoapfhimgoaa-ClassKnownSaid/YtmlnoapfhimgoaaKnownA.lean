/- ClassKnown: what is asked of the classes by hand, reckoned; and rows of classes and inputs as they lie. -/
import Derived.Test.YtmlnoapfhimgoaaPx0
import Derived.Test.YtmlnoapfhimgoaaPx1
import Derived.Test.YtmlnoapfhimgoaaPx3
import Derived.Test.YtmlnoapfhimgoaaGMay
import Derived.Test.YtmlnoapfhimgoaaGNth
namespace Go.Proofs.Ytmlnoapfhimgoaa.H
set_option linter.unusedVariables false
set_option linter.unusedSimpArgs false
open Go.RowKit Go.Proofs.Ytmlnoapfhimgoaa.G Go.Proofs.Ytmlnoapfhimgoaa.P Go.Proofs.YtmlnoapfhimgoaaW.PrintWords Go.Proofs.YtmlnoapfhimgoaaW.PrintLast Go.Proofs.YtmlnoapfhimgoaaW.PrintMore
def en (s : ByteArray) (d : Bool) (c : Int) : S38 := ⟨s, d, c⟩
def bads : List S25 := [⟨[en ⟨#[97]⟩ false 4], [], 0, 0, 0⟩, ⟨[en ⟨#[97]⟩ false (-1)], [], 0, 0, 0⟩, ⟨[en ⟨#[100]⟩ true 1], [], 0, 0, 0⟩, ⟨[], [4], 0, 0, 0⟩, ⟨[], [1, 1, 1], 0, 0, 0⟩, ⟨[], [], 7, 0, 0⟩, ⟨[], [], -1, 0, 0⟩, ⟨[], [], 1, 2, 0⟩, ⟨[], [], 0, -1, 0⟩, ⟨[], [], 0, 0, -1⟩, ⟨[], [], 0, 0, 401⟩, ⟨[en ⟨#[97]⟩ false 0, en ⟨#[98]⟩ false 0, en ⟨#[99]⟩ false 0, en ⟨#[101]⟩ false 0, en ⟨#[102]⟩ false 0], [], 0, 0, 0⟩, ⟨[en ⟨#[97, 47, 98]⟩ false 0], [], 0, 0, 0⟩]
def isBad (x : S25) : Bool := (match class_Nth.f x.f0 x.f1 x.f2 x.f3 x.f4 0 with | some r => !r.2.2.2 | none => false) && decide (class_May.f x.f0 x.f1 x.f2 x.f3 x.f4 = some false) && decide (class_Count.f 80 x.f0 x.f1 x.f2 x.f3 x.f4 = some 0)
theorem bads_ok : bads.all isBad = true := by kernel_rfl
theorem bad_facts (x : S25) (hx : x ∈ bads) : (∃ r1 r2 r3, class_Nth.f x.f0 x.f1 x.f2 x.f3 x.f4 0 = some (r1, r2, r3, false)) ∧ class_May.f x.f0 x.f1 x.f2 x.f3 x.f4 = some false ∧ class_Count.f 80 x.f0 x.f1 x.f2 x.f3 x.f4 = some 0 := by
  have h := List.all_eq_true.1 bads_ok x hx
  unfold isBad at h
  rw [Bool.and_eq_true, Bool.and_eq_true] at h
  refine ⟨?_, of_decide_eq_true h.1.2, of_decide_eq_true h.2⟩
  have h1 := h.1.1
  cases hn : class_Nth.f x.f0 x.f1 x.f2 x.f3 x.f4 0 with
  | none => rw [hn] at h1; cases h1
  | some r =>
    rw [hn] at h1
    obtain ⟨r1, r2, r3, r4⟩ := r
    cases r4 with
    | false => exact ⟨r1, r2, r3, rfl⟩
    | true => cases h1
def cT : List S38 := [en ⟨#[97]⟩ false 1]
def gT : List S38 := [en ⟨#[97]⟩ false 3, en ⟨#[98]⟩ false 3]
def wants : List S31 := [⟨[[]], [[]], [false, false]⟩, ⟨[[]], [[]], [false, true]⟩, ⟨[[]], [[]], [true, false]⟩, ⟨[[0]], [[]], [false, false]⟩]
def wantOk (i : Nat) : Bool := match class_Nth.f cT [0] 2 1 0 (i : Int), wants[i]? with | some r, some y => r.2.2.2 && decide (crossroadsref17_Same.f 80 r.1 r.2.1 r.2.2.1 y.f0 y.f1 y.f2 = some true) | _, _ => false
theorem wants_ok : (List.range 4).all wantOk = true := by kernel_rfl
theorem want_facts (i : Nat) (hi : i < 4) (y : S31) (hy : wants[i]? = some y) : ∃ r1 r2 r3, class_Nth.f cT [0] 2 1 0 (i : Int) = some (r1, r2, r3, true) ∧ crossroadsref17_Same.f 80 r1 r2 r3 y.f0 y.f1 y.f2 = some true := by
  have h := List.all_eq_true.1 wants_ok i (List.mem_range.2 hi)
  unfold wantOk at h
  rw [hy] at h
  cases hn : class_Nth.f cT [0] 2 1 0 (i : Int) with
  | none => rw [hn] at h; cases h
  | some r =>
    rw [hn] at h
    obtain ⟨r1, r2, r3, r4⟩ := r
    have h : (r4 && decide (crossroadsref17_Same.f 80 r1 r2 r3 y.f0 y.f1 y.f2 = some true)) = true := h
    rw [Bool.and_eq_true] at h
    exact ⟨r1, r2, r3, by rw [h.1], of_decide_eq_true h.2⟩
theorem n770 : class_Nth.f cT [0] 2 1 0 770 = some ([[255]], [[]], [true, false], true) := by kernel_rfl
theorem n771 : class_Nth.f cT [0] 2 1 0 771 = some ([], [], [], false) := by kernel_rfl
theorem ngreat : class_Nth.f gT [] 0 0 0 0 = some ([], [], [], false) := by kernel_rfl
theorem c771 : class_Count.f 80 cT [0] 2 1 0 = some 771 := by kernel_rfl
theorem cgreat : class_Count.f 80 gT [] 0 0 0 = some 1099511627776 := by kernel_rfl
theorem cnone : class_Count.f 80 [] [] 0 0 0 = some 1 := by kernel_rfl
theorem flat_at {n : Nat} : ∀ (L : List (List Value)) (h : ∀ c ∈ L, c.length = n) (j : Nat) (c : List Value), L[j]? = some c → ∀ (i : Nat) (u : Value), c[i]? = some u → L.flatten[j * n + i]? = some u
  | [], h, j, c, hc, i, u, hu => by simp at hc
  | y :: L, h, 0, c, hc, i, u, hu => by
    have : y = c := by simpa using hc
    subst this
    have hi : i < y.length := (List.getElem?_eq_some_iff.1 hu).1
    rw [List.flatten_cons, Nat.zero_mul, Nat.zero_add, List.getElem?_append_left hi]
    exact hu
  | y :: L, h, j + 1, c, hc, i, u, hu => by
    have h0 : y.length = n := h y List.mem_cons_self
    have := flat_at L (fun c hc => h c (List.mem_cons_of_mem _ hc)) j c (by simpa using hc) i u hu
    have e : (j + 1) * n + i = y.length + (j * n + i) := by rw [h0, Nat.add_mul, Nat.one_mul]; omega
    rw [List.flatten_cons, e, List.getElem?_append_right (by omega), Nat.add_sub_cancel_left]
    exact this
/-- A row of several cells an element, by its block. -/
theorem C_flat {α : Type} {d : Kd α} {W : World} {g n t : Nat} {m : Nat × Nat} {L : List α} {V : List (List Value)} (hl : L.length = n) (hn : n ≤ 100000) (hk : ∀ (j : Nat) (x : α), L[j]? = some x → ∃ c, V[j]? = some c ∧ d.K W x c) (hs : ∀ c ∈ V, c.length = d.sz)
    (hg : W.heap[g]? = some (.cells V.flatten.toArray t m)) : Kd.C d W (some ⟨g, 0, none⟩) n L := by
  refine ⟨hl, by omega, fun _ => ⟨_, rfl, fun j p hj => ?_⟩⟩
  obtain ⟨c, hc, hK⟩ := hk j p hj
  refine ⟨c, d.K_len hK, hK, fun i u hu => ?_⟩
  have e : (⟨g, 0, none⟩ : Addr).add (j * d.sz + i) = ⟨g, j * d.sz + i, none⟩ := by
    unfold Addr.add
    by_cases h : j * d.sz + i = 0
    · rw [if_pos h, h]
    · rw [if_neg h]; simp
  rw [e]
  unfold World.cell?
  rw [hg]
  have := flat_at V hs j c hc i u hu
  simpa using this
theorem C38 {W : World} {g n : Nat} {m : Nat × Nat} (L : List S38) {C : Array Value} (hl : L.length = n) (hn : n ≤ 100000) (hC : C = (L.map fun x => [Value.string x.f0, .bool x.f1, .int .i64 x.f2]).flatten.toArray) (hg : W.heap[g]? = some (.cells C 38 m)) : Kd.C k38 W (some ⟨g, 0, none⟩) n L := by
  subst hC
  refine C_flat hl hn (fun j x hx => ⟨_, ?_, k38_mk W x⟩) (fun c hc => ?_) hg
  · rw [List.getElem?_map, hx]; rfl
  · obtain ⟨x, _, rfl⟩ := List.mem_map.1 hc; rfl
theorem Cint {W : World} {g n t : Nat} {m : Nat × Nat} (L : List Int) {C : Array Value} (hl : L.length = n) (hn : n ≤ 100000) (hC : C = (L.map fun x => [Value.int .i64 x]).flatten.toArray) (hg : W.heap[g]? = some (.cells C t m)) : Kd.C (Kd.int .i64) W (some ⟨g, 0, none⟩) n L := by
  subst hC
  refine C_flat hl hn (fun j x hx => ⟨[.int .i64 x], ?_, rfl⟩) (fun c hc => ?_) hg
  · rw [List.getElem?_map, hx]; rfl
  · obtain ⟨x, _, rfl⟩ := List.mem_map.1 hc; rfl
theorem Cbool {W : World} {g n t : Nat} {m : Nat × Nat} (L : List Bool) {C : Array Value} (hl : L.length = n) (hn : n ≤ 100000) (hC : C = (L.map fun x => [Value.bool x]).flatten.toArray) (hg : W.heap[g]? = some (.cells C t m)) : Kd.C Kd.bool W (some ⟨g, 0, none⟩) n L := by
  subst hC
  refine C_flat hl hn (fun j x hx => ⟨[.bool x], ?_, rfl⟩) (fun c hc => ?_) hg
  · rw [List.getElem?_map, hx]; rfl
  · obtain ⟨x, _, rfl⟩ := List.mem_map.1 hc; rfl
theorem Cnil {α : Type} (d : Kd α) (W : World) : Kd.C d W none 0 [] := ⟨rfl, by omega, fun h => absurd h (Nat.lt_irrefl 0)⟩
def allocs (w : World) (os : List Obj) : World := os.foldl (fun w o => w.alloc o) w
theorem allocs_below : ∀ (os : List Obj) (w : World), Below w.heap.size w (allocs w os)
  | [], w => Below.refl _ _
  | o :: os, w => by
    have h := allocs_below os (w.alloc o)
    exact (below_alloc (Below.refl _ _) o).trans (h.mono (by rw [World.size_alloc]; omega))
theorem allocs_size : ∀ (os : List Obj) (w : World), (allocs w os).heap.size = w.heap.size + os.length
  | [], w => rfl
  | o :: os, w => by
    show (allocs (w.alloc o) os).heap.size = _
    rw [allocs_size os, World.size_alloc, List.length_cons]; omega
theorem allocs_at : ∀ (os : List Obj) (w : World) (i : Nat) (o : Obj), os[i]? = some o → (allocs w os).heap[w.heap.size + i]? = some o
  | [], w, i, o, h => by simp at h
  | a :: os, w, 0, o, h => by
    have : a = o := by simpa using h
    subst this
    exact blk_below (blk_new w a) (allocs_below os (w.alloc a))
  | a :: os, w, i + 1, o, h => by
    have := allocs_at os (w.alloc a) i o (by simpa using h)
    rw [World.size_alloc] at this
    rw [show w.heap.size + (i + 1) = w.heap.size + 1 + i by omega]
    exact this
def bvals (b : Nat) : List (List Value) := [[.slice (some ⟨b, 0, none⟩) 1 1, .slice none 0 0, .int .i64 0, .int .i64 0, .int .i64 0], [.slice (some ⟨b + 1, 0, none⟩) 1 1, .slice none 0 0, .int .i64 0, .int .i64 0, .int .i64 0], [.slice (some ⟨b + 1 + 1, 0, none⟩) 1 1, .slice none 0 0, .int .i64 0, .int .i64 0, .int .i64 0], [.slice none 0 0, .slice (some ⟨b + 1 + 1 + 1, 0, none⟩) 1 1, .int .i64 0, .int .i64 0, .int .i64 0], [.slice none 0 0, .slice (some ⟨b + 1 + 1 + 1 + 1, 0, none⟩) 3 3, .int .i64 0, .int .i64 0, .int .i64 0], [.slice none 0 0, .slice none 0 0, .int .i64 7, .int .i64 0, .int .i64 0], [.slice none 0 0, .slice none 0 0, .int .i64 (-1), .int .i64 0, .int .i64 0], [.slice none 0 0, .slice none 0 0, .int .i64 1, .int .i64 2, .int .i64 0], [.slice none 0 0, .slice none 0 0, .int .i64 0, .int .i64 (-1), .int .i64 0], [.slice none 0 0, .slice none 0 0, .int .i64 0, .int .i64 0, .int .i64 (-1)], [.slice none 0 0, .slice none 0 0, .int .i64 0, .int .i64 0, .int .i64 401], [.slice (some ⟨b + 1 + 1 + 1 + 1 + 1, 0, none⟩) 5 5, .slice none 0 0, .int .i64 0, .int .i64 0, .int .i64 0], [.slice (some ⟨b + 1 + 1 + 1 + 1 + 1 + 1, 0, none⟩) 1 1, .slice none 0 0, .int .i64 0, .int .i64 0, .int .i64 0]]
def bobj (b : Nat) : List Obj := [.cells #[.string ⟨#[97]⟩, .bool false, .int .i64 4] 38, .cells #[.string ⟨#[97]⟩, .bool false, .int .i64 (-1)] 38, .cells #[.string ⟨#[100]⟩, .bool true, .int .i64 1] 38, .cells #[.int .i64 4] 3, .cells #[.int .i64 1, .int .i64 1, .int .i64 1] 3,
  .cells #[.string ⟨#[97]⟩, .bool false, .int .i64 0, .string ⟨#[98]⟩, .bool false, .int .i64 0, .string ⟨#[99]⟩, .bool false, .int .i64 0, .string ⟨#[101]⟩, .bool false, .int .i64 0, .string ⟨#[102]⟩, .bool false, .int .i64 0] 38,
  .cells #[.string ⟨#[97, 47, 98]⟩, .bool false, .int .i64 0] 38, .cells (bvals b).flatten.toArray 25]
theorem bads_C (w : World) : Kd.C k25 (allocs w (bobj w.heap.size)) (some ⟨w.heap.size + 1 + 1 + 1 + 1 + 1 + 1 + 1, 0, none⟩) 13 bads := by
  have h := allocs_at (bobj w.heap.size) w
  have a0 : Kd.C k38 _ _ 1 [en ⟨#[97]⟩ false 4] := C38 [en ⟨#[97]⟩ false 4] rfl (by omega) rfl (h 0 _ rfl)
  have a1 : Kd.C k38 _ _ 1 [en ⟨#[97]⟩ false (-1)] := C38 [en ⟨#[97]⟩ false (-1)] rfl (by omega) rfl (h 1 _ rfl)
  have a2 : Kd.C k38 _ _ 1 [en ⟨#[100]⟩ true 1] := C38 [en ⟨#[100]⟩ true 1] rfl (by omega) rfl (h 2 _ rfl)
  have a3 : Kd.C (Kd.int .i64) _ _ 1 [4] := Cint [4] rfl (by omega) rfl (h 3 _ rfl)
  have a4 : Kd.C (Kd.int .i64) _ _ 3 [1, 1, 1] := Cint [1, 1, 1] rfl (by omega) rfl (h 4 _ rfl)
  have a5 : Kd.C k38 _ _ 5 [en ⟨#[97]⟩ false 0, en ⟨#[98]⟩ false 0, en ⟨#[99]⟩ false 0, en ⟨#[101]⟩ false 0, en ⟨#[102]⟩ false 0] := C38 [en ⟨#[97]⟩ false 0, en ⟨#[98]⟩ false 0, en ⟨#[99]⟩ false 0, en ⟨#[101]⟩ false 0, en ⟨#[102]⟩ false 0] rfl (by omega) rfl (h 5 _ rfl)
  have a6 : Kd.C k38 _ _ 1 [en ⟨#[97, 47, 98]⟩ false 0] := C38 [en ⟨#[97, 47, 98]⟩ false 0] rfl (by omega) rfl (h 6 _ rfl)
  have z0 := Cnil k38 (allocs w (bobj w.heap.size))
  have z1 := Cnil (Kd.int .i64) (allocs w (bobj w.heap.size))
  refine C_flat (V := bvals w.heap.size) rfl (by omega) (fun j x hx => ?_) (fun c hc => ?_) (h 7 _ rfl)
  · match j, hx with
    | 0, hx =>
      injection hx with hx
      subst hx
      exact ⟨_, rfl, k25_mk _ _ (by exact Nat.le_refl _) a0 (by exact Nat.le_refl _) z1⟩
    | 1, hx =>
      injection hx with hx
      subst hx
      exact ⟨_, rfl, k25_mk _ _ (by exact Nat.le_refl _) a1 (by exact Nat.le_refl _) z1⟩
    | 2, hx =>
      injection hx with hx
      subst hx
      exact ⟨_, rfl, k25_mk _ _ (by exact Nat.le_refl _) a2 (by exact Nat.le_refl _) z1⟩
    | 3, hx =>
      injection hx with hx
      subst hx
      exact ⟨_, rfl, k25_mk _ _ (by exact Nat.le_refl _) z0 (by exact Nat.le_refl _) a3⟩
    | 4, hx =>
      injection hx with hx
      subst hx
      exact ⟨_, rfl, k25_mk _ _ (by exact Nat.le_refl _) z0 (by exact Nat.le_refl _) a4⟩
    | 5, hx =>
      injection hx with hx
      subst hx
      exact ⟨_, rfl, k25_mk _ _ (by exact Nat.le_refl _) z0 (by exact Nat.le_refl _) z1⟩
    | 6, hx =>
      injection hx with hx
      subst hx
      exact ⟨_, rfl, k25_mk _ _ (by exact Nat.le_refl _) z0 (by exact Nat.le_refl _) z1⟩
    | 7, hx =>
      injection hx with hx
      subst hx
      exact ⟨_, rfl, k25_mk _ _ (by exact Nat.le_refl _) z0 (by exact Nat.le_refl _) z1⟩
    | 8, hx =>
      injection hx with hx
      subst hx
      exact ⟨_, rfl, k25_mk _ _ (by exact Nat.le_refl _) z0 (by exact Nat.le_refl _) z1⟩
    | 9, hx =>
      injection hx with hx
      subst hx
      exact ⟨_, rfl, k25_mk _ _ (by exact Nat.le_refl _) z0 (by exact Nat.le_refl _) z1⟩
    | 10, hx =>
      injection hx with hx
      subst hx
      exact ⟨_, rfl, k25_mk _ _ (by exact Nat.le_refl _) z0 (by exact Nat.le_refl _) z1⟩
    | 11, hx =>
      injection hx with hx
      subst hx
      exact ⟨_, rfl, k25_mk _ _ (by exact Nat.le_refl _) a5 (by exact Nat.le_refl _) z1⟩
    | 12, hx =>
      injection hx with hx
      subst hx
      exact ⟨_, rfl, k25_mk _ _ (by exact Nat.le_refl _) a6 (by exact Nat.le_refl _) z1⟩
    | n + 13, hx => cases hx
  · have : (bvals w.heap.size).all (fun c => decide (c.length = 5)) = true := rfl
    exact of_decide_eq_true (List.all_eq_true.1 this c hc)
def wvals (b : Nat) : List (List Value) := [[.slice (some ⟨b + 1 + 1 + 1, 0, none⟩) 1 1, .slice (some ⟨b + 1 + 1 + 1 + 1, 0, none⟩) 1 1, .slice (some ⟨b + 1 + 1 + 1 + 1 + 1, 0, none⟩) 2 2], [.slice (some ⟨b + 1 + 1 + 1 + 1 + 1 + 1, 0, none⟩) 1 1, .slice (some ⟨b + 1 + 1 + 1 + 1 + 1 + 1 + 1, 0, none⟩) 1 1, .slice (some ⟨b + 1 + 1 + 1 + 1 + 1 + 1 + 1 + 1, 0, none⟩) 2 2], [.slice (some ⟨b + 1 + 1 + 1 + 1 + 1 + 1 + 1 + 1 + 1, 0, none⟩) 1 1, .slice (some ⟨b + 1 + 1 + 1 + 1 + 1 + 1 + 1 + 1 + 1 + 1, 0, none⟩) 1 1, .slice (some ⟨b + 1 + 1 + 1 + 1 + 1 + 1 + 1 + 1 + 1 + 1 + 1, 0, none⟩) 2 2], [.slice (some ⟨b + 1 + 1 + 1 + 1 + 1 + 1 + 1 + 1 + 1 + 1 + 1 + 1 + 1, 0, none⟩) 1 1, .slice (some ⟨b + 1 + 1 + 1 + 1 + 1 + 1 + 1 + 1 + 1 + 1 + 1 + 1 + 1 + 1, 0, none⟩) 1 1, .slice (some ⟨b + 1 + 1 + 1 + 1 + 1 + 1 + 1 + 1 + 1 + 1 + 1 + 1 + 1 + 1 + 1, 0, none⟩) 2 2]]
def wobj (b : Nat) : List Obj := [.cells #[.string ⟨#[97]⟩, .bool false, .int .i64 1] 38,
  .cells #[.int .i64 0] 3,
  .cells #[.slice (some ⟨b, 0, none⟩) 1 1, .slice (some ⟨b + 1, 0, none⟩) 1 1, .int .i64 2, .int .i64 1, .int .i64 0] 25,
  .cells #[.slice none 0 0] 42,
  .cells #[.slice none 0 0] 42,
  .cells #[.bool false, .bool false] 4,
  .cells #[.slice none 0 0] 42,
  .cells #[.slice none 0 0] 42,
  .cells #[.bool false, .bool true] 4,
  .cells #[.slice none 0 0] 42,
  .cells #[.slice none 0 0] 42,
  .cells #[.bool true, .bool false] 4,
  .cells #[.int .u8 0] 5,
  .cells #[.slice (some ⟨b + 1 + 1 + 1 + 1 + 1 + 1 + 1 + 1 + 1 + 1 + 1 + 1, 0, none⟩) 1 1] 42,
  .cells #[.slice none 0 0] 42,
  .cells #[.bool false, .bool false] 4,
  .cells (wvals b).flatten.toArray 31]
theorem Cbb {W : World} {g n t : Nat} {m : Nat × Nat} (L : List (List Int)) (V : List Value) {C : Array Value} (hl : L.length = n) (hn : n ≤ 100000) (hC : C = V.toArray) (hk : ∀ (j : Nat) (x : List Int), L[j]? = some x → ∃ c A k, V[j]? = some c ∧ c = .slice A x.length k ∧ x.length ≤ k ∧ Kd.C (Kd.int .u8) W A x.length x) (hg : W.heap[g]? = some (.cells C t m)) : Kd.C (Kd.slice 5 (Kd.int .u8)) W (some ⟨g, 0, none⟩) n L := by
  subst hC
  have e : ∀ V : List Value, (V.map fun c => [c]).flatten = V := by
    intro V
    induction V with
    | nil => rfl
    | cons a V ih => rw [List.map_cons, List.flatten_cons, ih]; rfl
  refine C_flat (V := V.map fun c => [c]) hl hn (fun j x hx => ?_) (fun c hc => ?_) (by rw [e]; exact hg)
  · obtain ⟨c, A, k, hc, rfl, hl, hC⟩ := hk j x hx
    exact ⟨[.slice A x.length k], by rw [List.getElem?_map, hc]; rfl, ⟨A, k, rfl, hl, hC⟩⟩
  · obtain ⟨x, _, rfl⟩ := List.mem_map.1 hc; rfl
theorem Cu8 {W : World} {g n t : Nat} {m : Nat × Nat} (L : List Int) {C : Array Value} (hl : L.length = n) (hn : n ≤ 100000) (hC : C = (L.map fun x => [Value.int .u8 x]).flatten.toArray) (hg : W.heap[g]? = some (.cells C t m)) : Kd.C (Kd.int .u8) W (some ⟨g, 0, none⟩) n L := by
  subst hC
  refine C_flat hl hn (fun j x hx => ⟨[.int .u8 x], ?_, rfl⟩) (fun c hc => ?_) hg
  · rw [List.getElem?_map, hx]; rfl
  · obtain ⟨x, _, rfl⟩ := List.mem_map.1 hc; rfl
theorem wants_C (w : World) : Kd.C k31 (allocs w (wobj w.heap.size)) (some ⟨w.heap.size + 1 + 1 + 1 + 1 + 1 + 1 + 1 + 1 + 1 + 1 + 1 + 1 + 1 + 1 + 1 + 1, 0, none⟩) 4 wants ∧ (allocs w (wobj w.heap.size)).heap[w.heap.size + 1 + 1]? = some (.cells #[.slice (some ⟨w.heap.size, 0, none⟩) 1 1, .slice (some ⟨w.heap.size + 1, 0, none⟩) 1 1, .int .i64 2, .int .i64 1, .int .i64 0] 25 (0, 0)) ∧ Kd.C k38 (allocs w (wobj w.heap.size)) (some ⟨w.heap.size, 0, none⟩) 1 cT ∧ Kd.C (Kd.int .i64) (allocs w (wobj w.heap.size)) (some ⟨w.heap.size + 1, 0, none⟩) 1 [0] := by
  have h := allocs_at (wobj w.heap.size) w
  have nl : ∀ i : Nat, (wobj w.heap.size)[i]? = some (.cells #[.slice none 0 0] 42) → Kd.C (Kd.slice 5 (Kd.int .u8)) (allocs w (wobj w.heap.size)) (some ⟨w.heap.size + i, 0, none⟩) 1 [[]] := fun i hi => Cbb [[]] [.slice none 0 0] rfl (by omega) rfl (fun j x hx => by
    match j, hx with
    | 0, hx => injection hx with hx; subst hx; exact ⟨_, none, 0, rfl, rfl, Nat.le_refl _, Cnil _ _⟩
    | n + 1, hx => cases hx) (h i _ hi)
  have a12 : Kd.C (Kd.int .u8) (allocs w (wobj w.heap.size)) _ 1 [0] := Cu8 [0] rfl (by omega) rfl (h 12 _ rfl)
  have a13 : Kd.C (Kd.slice 5 (Kd.int .u8)) (allocs w (wobj w.heap.size)) (some ⟨w.heap.size + 1 + 1 + 1 + 1 + 1 + 1 + 1 + 1 + 1 + 1 + 1 + 1 + 1, 0, none⟩) 1 [[0]] := Cbb [[0]] [.slice (some ⟨w.heap.size + 1 + 1 + 1 + 1 + 1 + 1 + 1 + 1 + 1 + 1 + 1 + 1, 0, none⟩) 1 1] rfl (by omega) rfl (fun j x hx => by
    match j, hx with
    | 0, hx => injection hx with hx; subst hx; exact ⟨_, _, 1, rfl, rfl, Nat.le_refl _, a12⟩
    | n + 1, hx => cases hx) (h 13 _ rfl)
  have b5 : Kd.C Kd.bool (allocs w (wobj w.heap.size)) _ 2 [false, false] := Cbool [false, false] rfl (by omega) rfl (h 5 _ rfl)
  have b8 : Kd.C Kd.bool (allocs w (wobj w.heap.size)) _ 2 [false, true] := Cbool [false, true] rfl (by omega) rfl (h 8 _ rfl)
  have b11 : Kd.C Kd.bool (allocs w (wobj w.heap.size)) _ 2 [true, false] := Cbool [true, false] rfl (by omega) rfl (h 11 _ rfl)
  have b15 : Kd.C Kd.bool (allocs w (wobj w.heap.size)) _ 2 [false, false] := Cbool [false, false] rfl (by omega) rfl (h 15 _ rfl)
  refine ⟨?_, h 2 _ rfl, C38 cT rfl (by omega) rfl (h 0 _ rfl), Cint [0] rfl (by omega) rfl (h 1 _ rfl)⟩
  refine C_flat (V := wvals w.heap.size) rfl (by omega) (fun j x hx => ?_) (fun c hc => ?_) (h 16 _ rfl)
  · match j, hx with
    | 0, hx => injection hx with hx; subst hx; exact ⟨_, rfl, k31_mk _ _ (by exact Nat.le_refl _) (nl 3 rfl) (by exact Nat.le_refl _) (nl 4 rfl) (by exact Nat.le_refl _) b5⟩
    | 1, hx => injection hx with hx; subst hx; exact ⟨_, rfl, k31_mk _ _ (by exact Nat.le_refl _) (nl 6 rfl) (by exact Nat.le_refl _) (nl 7 rfl) (by exact Nat.le_refl _) b8⟩
    | 2, hx => injection hx with hx; subst hx; exact ⟨_, rfl, k31_mk _ _ (by exact Nat.le_refl _) (nl 9 rfl) (by exact Nat.le_refl _) (nl 10 rfl) (by exact Nat.le_refl _) b11⟩
    | 3, hx => injection hx with hx; subst hx; exact ⟨_, rfl, k31_mk _ _ (by exact Nat.le_refl _) a13 (by exact Nat.le_refl _) (nl 14 rfl) (by exact Nat.le_refl _) b15⟩
    | n + 4, hx => cases hx
  · have : (wvals w.heap.size).all (fun c => decide (c.length = 3)) = true := rfl
    exact of_decide_eq_true (List.all_eq_true.1 this c hc)
end Go.Proofs.Ytmlnoapfhimgoaa.H
