/- UnitOrders, the walk: rows that came in, put into a new row by their headers, turned round, and handed to 'Run'. -/
import Derived.Test.YtpjnacblaipljaaUnitSol
import Derived.Test.YtpjnacblaipljaaPx3
namespace Go.Proofs.Ytpjnacblaipljaa.Orders
set_option linter.unusedVariables false
set_option linter.unusedSimpArgs false
open Go.RowKit Go.Proofs.Ytpjnacblaipljaa.P Go.Proofs.YtpjnacblaipljaaW.PrintWords Go.Proofs.YtpjnacblaipljaaW.PrintLast Go.Proofs.YtpjnacblaipljaaW.PrintMore
/-- A slice's header. -/
abbrev Hd := Option Addr × Nat × Nat
def hv (h : Hd) : Value := .slice h.1 h.2.1 h.2.2
def kh : Kd Hd := Kd.scalar hv (fun _ => rfl)
def no : Hd := (none, 0, 0)
/-- What a header leads to, in the world in which it came in. -/
def Leads (W : World) (h : Hd) (l : List Int) : Prop := h.2.1 = l.length ∧ l.length ≤ h.2.2 ∧ (Kd.int .i64).C W h.1 l.length l
def All (W : World) (hs : List Hd) (ls : List (List Int)) : Prop := hs.length = ls.length ∧ ∀ (j : Nat) (h : Hd) (l : List Int), hs[j]? = some h → ls[j]? = some l → Leads W h l
theorem heads {W : World} {A : Option Addr} {n : Nat} {ls : List (List Int)} (h : (Kd.slice 3 (Kd.int .i64)).C W A n ls) : ∃ hs, kh.C W A n hs ∧ All W hs ls := by
  obtain ⟨h1, h2, h3⟩ := h
  by_cases hn : 0 < n
  · obtain ⟨ad, rfl, hc⟩ := h3 hn
    have hex : ∀ j : Nat, ∃ hd : Hd, ∀ l, ls[j]? = some l → Leads W hd l ∧ W.cell? (ad.add j) = some (hv hd) := by
      intro j
      cases hj : ls[j]? with
      | none => exact ⟨no, fun l hl => by simp at hl⟩
      | some l =>
        obtain ⟨c, hlen, ⟨A', c', rfl, hle, hC⟩, hcell⟩ := hc j l hj
        refine ⟨(A', l.length, c'), fun l' hl' => ?_⟩
        injection hl' with hl'
        subst hl'
        refine ⟨⟨rfl, hle, hC⟩, ?_⟩
        have := hcell 0 _ rfl
        rw [show j * (Kd.slice 3 (Kd.int .i64)).sz + 0 = j from by show j * 1 + 0 = j; omega] at this
        exact this
    refine ⟨(List.range n).map (fun j => (hex j).choose), ⟨by simp, h2, fun _ => ⟨ad, rfl, ?_⟩⟩, by simp [h1], ?_⟩
    · intro j p hj
      obtain ⟨hjl, hje⟩ := List.getElem?_eq_some_iff.1 hj
      rw [List.length_map, List.length_range] at hjl
      rw [List.getElem_map, List.getElem_range] at hje
      subst hje
      obtain ⟨l, hl⟩ : ∃ l, ls[j]? = some l := ⟨ls[j]'(by omega), List.getElem?_eq_getElem (by omega)⟩
      refine ⟨[hv (hex j).choose], rfl, rfl, ?_⟩
      intro i u hu
      cases i with
      | zero =>
        injection hu with hu
        subst hu
        rw [show j * kh.sz + 0 = j from by show j * 1 + 0 = j; omega]
        exact ((hex j).choose_spec l hl).2
      | succ i => simp at hu
    · intro j h l hj hl
      obtain ⟨hjl, hje⟩ := List.getElem?_eq_some_iff.1 hj
      rw [List.getElem_map, List.getElem_range] at hje
      subst hje
      exact ((hex j).choose_spec _ hl).1
  · obtain rfl : n = 0 := by omega
    have : ls = [] := List.length_eq_zero_iff.1 h1
    subst this
    exact ⟨[], ⟨rfl, by omega, fun h => absurd h (by omega)⟩, rfl, fun j h l hj => by simp at hj⟩
theorem reads {W w : World} (hb : Below W.heap.size W w) {A : Option Addr} {n : Nat} {hs : List Hd} {ls : List (List Int)} (h : kh.C w A n hs) (hl : All W hs ls) : (Kd.slice 3 (Kd.int .i64)).C w A n ls := by
  obtain ⟨h1, h2, h3⟩ := h
  refine ⟨hl.1.symm.trans h1, h2, fun hn => ?_⟩
  obtain ⟨ad, rfl, hc⟩ := h3 hn
  refine ⟨ad, rfl, fun j l hj => ?_⟩
  have hjl := (List.getElem?_eq_some_iff.1 hj).1
  obtain ⟨hd, hhd⟩ : ∃ hd, hs[j]? = some hd := ⟨hs[j]'(by have := hl.1; omega), List.getElem?_eq_getElem _⟩
  obtain ⟨e1, e2, e3⟩ := hl.2 j hd l hhd hj
  obtain ⟨c, hlen, hk, hcell⟩ := hc j hd hhd
  have hk' : c = [hv hd] := hk
  subst hk'
  obtain ⟨a, m, cc⟩ := hd
  obtain rfl : m = l.length := e1
  exact ⟨[hv (a, l.length, cc)], rfl, ⟨a, cc, rfl, e2, Kd.C_below e3 hb⟩, hcell⟩
theorem all_get {W : World} {hs : List Hd} {ls : List (List Int)} (h : All W hs ls) (i : Nat) (hi : i < ls.length) : Leads W (hs.getD i no) (ls.getD i []) := by
  have h1 := h.1
  rw [List.getD_eq_getElem?_getD, List.getD_eq_getElem?_getD, List.getElem?_eq_getElem hi, List.getElem?_eq_getElem (show i < hs.length by omega)]
  exact h.2 i _ _ (List.getElem?_eq_getElem _) (List.getElem?_eq_getElem hi)
theorem all_snoc {W : World} {hs : List Hd} {ls : List (List Int)} (h : All W hs ls) {a : Hd} {l : List Int} (ha : Leads W a l) : All W (hs ++ [a]) (ls ++ [l]) := by
  have h1 := h.1
  refine ⟨by simp [h.1], fun j x y hx hy => ?_⟩
  by_cases hj : j < ls.length
  · rw [List.getElem?_append_left (by omega)] at hx hy
    exact h.2 j x y hx hy
  · rw [List.getElem?_append_right (by omega)] at hx hy
    rw [h1] at hx
    cases hj' : j - ls.length with
    | zero =>
      rw [hj'] at hx hy
      injection hx with hx; injection hy with hy
      subst hx; subst hy; exact ha
    | succ m =>
      rw [hj'] at hx
      simp at hx
theorem all_set {W : World} {hs : List Hd} {ls : List (List Int)} (h : All W hs ls) (i : Nat) {a : Hd} {l : List Int} (ha : Leads W a l) : All W (hs.set i a) (ls.set i l) := by
  refine ⟨by simp [h.1], fun j x y hx hy => ?_⟩
  rw [List.getElem?_set] at hx hy
  have h1 := h.1
  by_cases hij : i = j
  · rw [if_pos hij] at hx hy
    split at hx
    · split at hy
      · injection hx with hx; injection hy with hy
        subst hx; subst hy; exact ha
      · simp at hy
    · simp at hx
  · rw [if_neg hij] at hx hy
    exact h.2 j x y hx hy
theorem infoH : (Try.prog.info? 32).map (fun i => (i.zero, i.size, i.bytes)) = some (some (.slice none 0 0), 1, 24) := by kernel_rfl
theorem one {w : World} (h : Hd) (e : TypeId) : kh.C (w.alloc (.cells #[hv h] e)) (some ⟨w.heap.size, 0, none⟩) 1 [h] := by
  refine ⟨rfl, by omega, fun _ => ⟨_, rfl, fun j p hj => ?_⟩⟩
  cases j with
  | zero =>
    injection hj with hj
    subst hj
    refine ⟨[hv h], rfl, rfl, fun i u hu => ?_⟩
    cases i with
    | zero =>
      injection hu with hu
      subst hu
      show World.cell? _ ⟨w.heap.size, 0, none⟩ = _
      rw [World.cell?_alloc_mark]; rfl
    | succ i => simp at hu
  | succ j => simp at hj
/-- The first loop's row. -/
def turned (f : List (List Int)) (t i : Nat) : List (List Int) := (List.range i).map fun j => f.getD ((j + t) % f.length) []
theorem turned_mem (f : List (List Int)) (t : Nat) (c : List Int) : c ∈ turned f t f.length ↔ c ∈ f := by
  unfold turned
  rw [List.mem_map]
  constructor
  · rintro ⟨j, hj, rfl⟩
    have hj' : j < f.length := List.mem_range.1 hj
    have hlt : (j + t) % f.length < f.length := Nat.mod_lt _ (by omega)
    rw [List.getD_eq_getElem?_getD, List.getElem?_eq_getElem hlt]
    exact List.getElem_mem hlt
  · intro hc
    obtain ⟨i, hi, rfl⟩ := List.mem_iff_getElem.1 hc
    -- the place that is turned to i
    have ht : t % f.length < f.length := Nat.mod_lt _ (by omega)
    refine ⟨(i + (f.length - t % f.length)) % f.length, List.mem_range.2 (Nat.mod_lt _ (by omega)), ?_⟩
    have e : ((i + (f.length - t % f.length)) % f.length + t) % f.length = i := by
      rw [Nat.mod_add_mod, show i + (f.length - t % f.length) + t = i + (f.length - t % f.length + t) by omega, Nat.add_mod, ← Nat.add_mod_mod (f.length - t % f.length), Nat.sub_add_cancel (Nat.le_of_lt ht), Nat.mod_self, Nat.add_zero, Nat.mod_mod, Nat.mod_eq_of_lt hi]
    rw [e, List.getD_eq_getElem?_getD, List.getElem?_eq_getElem hi]
    rfl
/-- Two places changed: the same is there. -/
theorem swap_mem {α : Type} (l : List α) (d : α) (i j : Nat) (hi : i < l.length) (hj : j < l.length) (c : α) : c ∈ (l.set i (l.getD j d)).set j (l.getD i d) ↔ c ∈ l := by
  have gi : l.getD i d = l[i] := by rw [List.getD_eq_getElem?_getD, List.getElem?_eq_getElem hi]; rfl
  have gj : l.getD j d = l[j] := by rw [List.getD_eq_getElem?_getD, List.getElem?_eq_getElem hj]; rfl
  rw [gi, gj]
  constructor
  · intro h
    rcases List.mem_or_eq_of_mem_set h with h | rfl
    · rcases List.mem_or_eq_of_mem_set h with h | rfl
      · exact h
      · exact List.getElem_mem hj
    · exact List.getElem_mem hi
  · intro h
    obtain ⟨m, hm, rfl⟩ := List.mem_iff_getElem.1 h
    by_cases h1 : m = i
    · subst h1
      exact List.mem_iff_getElem.2 ⟨j, by rw [List.length_set, List.length_set]; exact hj, by rw [List.getElem_set_self]⟩
    · by_cases h2 : m = j
      · subst h2
        refine List.mem_iff_getElem.2 ⟨i, by rw [List.length_set, List.length_set]; exact hi, ?_⟩
        rw [List.getElem_set_ne h1, List.getElem_set_self]
      · refine List.mem_iff_getElem.2 ⟨m, by rw [List.length_set, List.length_set]; exact hm, ?_⟩
        rw [List.getElem_set_ne (fun h => h2 h.symm), List.getElem_set_ne (fun h => h1 h.symm)]
theorem turned_succ (f : List (List Int)) (t i : Nat) : turned f t (i + 1) = turned f t i ++ [f.getD ((i + t) % f.length) []] := by
  unfold turned; rw [List.range_succ, List.map_append]; rfl
attribute [local go_sem] max2_int min2_int max_two min_two max_three min_three max_four min_four
set_option maxRecDepth 100000 in
set_option maxHeartbeats 8000000 in
theorem orders_small (w : World) (n turn : Int) (A : Option Addr) (c : Nat) (f : List (List Int)) (hf : (Kd.slice 3 (Kd.int .i64)).C w A f.length f) (hc : f.length ≤ c) (hl : f.length * 24 ≤ 140737488351232)
    (q : Nat) (hq : q < 30) (hqe : Int.tmod (wrap64 n) 30 = q) (ht0 : 0 ≤ turn) (ht : turn ≤ 255) (K : Nat) (b : Bool) (hS : crossroadslaw4_Small.f K f 800 = some false) (hA : crossroadslaw5_awake.f K = some true) (hM : crossroadsref1_FormulaMay.f K q f = some b) :
    Calls Try.prog 9 #[.int .u8 n, .slice A f.length c, .int .u8 turn] w fun e w' => e = .returned (.bool true) ∧ Below w.heap.size w w' := by
  go_enter Try.func9, Try.ntmps9
  go_wp2_with (first
    | (go_at_call 17; (refine (crossroadslaw5_awake.calls K true _ hA).mono ?_); rintro e w1 ⟨rfl, hB1⟩)
    | (go_at_call 18; (refine (crossroadslaw4_Small.calls K A c f 800 false _ (Kd.C_below hf hB1) hc hS).mono ?_); rintro e w2 ⟨rfl, ⟨n2, rfl⟩⟩)
    | (go_at_call 19; (refine (crossroadsref1_FormulaMay.calls K q A c f b _ (Kd.C_drewN (Kd.C_below hf hB1) _) hc hM).mono ?_); rintro e w3 ⟨rfl, ⟨n3, rfl⟩⟩))
  go_ret
  exact ⟨rfl, pw_below_drewN hB1 _⟩
set_option maxRecDepth 100000 in
set_option maxHeartbeats 8000000 in
theorem orders_may (w : World) (n turn : Int) (A : Option Addr) (c : Nat) (f : List (List Int)) (hf : (Kd.slice 3 (Kd.int .i64)).C w A f.length f) (hc : f.length ≤ c) (hl : f.length * 24 ≤ 140737488351232)
    (q : Nat) (hq : q < 30) (hqe : Int.tmod (wrap64 n) 30 = q) (ht0 : 0 ≤ turn) (ht : turn ≤ 255) (K : Nat) (hS : crossroadslaw4_Small.f K f 800 = some true) (hA : crossroadslaw5_awake.f K = some true) (hM : crossroadsref1_FormulaMay.f K q f = some false) :
    Calls Try.prog 9 #[.int .u8 n, .slice A f.length c, .int .u8 turn] w fun e w' => e = .returned (.bool true) ∧ Below w.heap.size w w' := by
  go_enter Try.func9, Try.ntmps9
  go_wp2_with (first
    | (go_at_call 17; (refine (crossroadslaw5_awake.calls K true _ hA).mono ?_); rintro e w1 ⟨rfl, hB1⟩)
    | (go_at_call 18; (refine (crossroadslaw4_Small.calls K A c f 800 true _ (Kd.C_below hf hB1) hc hS).mono ?_); rintro e w2 ⟨rfl, ⟨n2, rfl⟩⟩)
    | (go_at_call 19; (refine (crossroadsref1_FormulaMay.calls K q A c f false _ (Kd.C_drewN (Kd.C_below hf hB1) _) hc hM).mono ?_); rintro e w3 ⟨rfl, ⟨n3, rfl⟩⟩))
  go_ret
  exact ⟨rfl, pw_below_drewN hB1 _⟩
set_option maxRecDepth 100000 in
set_option maxHeartbeats 8000000 in
theorem orders_nil (w : World) (n turn : Int) (A : Option Addr) (c : Nat) (f : List (List Int)) (hf : (Kd.slice 3 (Kd.int .i64)).C w A f.length f) (hc : f.length ≤ c) (hl : f.length * 24 ≤ 140737488351232)
    (q : Nat) (hq : q < 30) (hqe : Int.tmod (wrap64 n) 30 = q) (ht0 : 0 ≤ turn) (ht : turn ≤ 255) (K : Nat) (hS : crossroadslaw4_Small.f K f 800 = some true) (hA : crossroadslaw5_awake.f K = some true) (hM : crossroadsref1_FormulaMay.f K q f = some true) (hn0 : ((f.length : Int) == 0) = true) :
    Calls Try.prog 9 #[.int .u8 n, .slice A f.length c, .int .u8 turn] w fun e w' => e = .returned (.bool true) ∧ Below w.heap.size w w' := by
  go_enter Try.func9, Try.ntmps9
  go_wp2_with (first
    | (go_at_call 17; (refine (crossroadslaw5_awake.calls K true _ hA).mono ?_); rintro e w1 ⟨rfl, hB1⟩)
    | (go_at_call 18; (refine (crossroadslaw4_Small.calls K A c f 800 true _ (Kd.C_below hf hB1) hc hS).mono ?_); rintro e w2 ⟨rfl, ⟨n2, rfl⟩⟩)
    | (go_at_call 19; (refine (crossroadsref1_FormulaMay.calls K q A c f true _ (Kd.C_drewN (Kd.C_below hf hB1) _) hc hM).mono ?_); rintro e w3 ⟨rfl, ⟨n3, rfl⟩⟩))
  go_ret
  exact ⟨rfl, pw_below_drewN hB1 _⟩
set_option maxRecDepth 100000 in
set_option maxHeartbeats 8000000 in
theorem orders_main (w : World) (n turn : Int) (A : Option Addr) (c : Nat) (f : List (List Int)) (hf : (Kd.slice 3 (Kd.int .i64)).C w A f.length f) (hc : f.length ≤ c) (hl : f.length * 24 ≤ 140737488351232)
    (q : Nat) (hq : q < 30) (hqe : Int.tmod (wrap64 n) 30 = q) (ht0 : 0 ≤ turn) (ht : turn ≤ 255) (K : Nat) (hS : crossroadslaw4_Small.f K f 800 = some true) (hA : crossroadslaw5_awake.f K = some true) (hM : crossroadsref1_FormulaMay.f K q f = some true) (hnil : ¬ f.length = 0) (hs : List Hd) (hhs : kh.C w A f.length hs) (hal : All w hs f)
    (x1 : List Int) (x2 : Bool) (x3 : Int) (hr : ∀ gl : List (List Int), (∀ c, c ∈ gl ↔ c ∈ f) → gl.length = f.length → ∃ K, unit_Run.f K q gl (List.replicate q 0) = some (x1, x2, x3) ∧ crossroadslaw5_same.f K x1 x1 = some true) :
    Calls Try.prog 9 #[.int .u8 n, .slice A f.length c, .int .u8 turn] w fun e w' => e = .returned (.bool true) ∧ Below w.heap.size w w' := by
  have hr0 := Aside0.mk hr
  clear hr
  have hn0 : ((f.length : Int) == 0) = false := beq_eq_false_iff_ne.mpr (by omega)
  go_enter Try.func9, Try.ntmps9
  go_wp2_with (first
    | (go_at_call 17; (refine (crossroadslaw5_awake.calls K true _ hA).mono ?_); rintro e w1 ⟨rfl, hB1⟩)
    | (go_at_call 18; (refine (crossroadslaw4_Small.calls K A c f 800 true _ (Kd.C_below hf hB1) hc hS).mono ?_); rintro e w2 ⟨rfl, ⟨n2, rfl⟩⟩)
    | (go_at_call 19; (refine (crossroadsref1_FormulaMay.calls K q A c f true _ (Kd.C_drewN (Kd.C_below hf hB1) _) hc hM).mono ?_); rintro e w3 ⟨rfl, ⟨n3, rfl⟩⟩))
  have hBw : ∀ wr, Below w1.heap.size w1 wr → Below w.heap.size w wr := fun wr h => hB1.trans (h.mono hB1.size)
  have ht1 : wrap64 turn = turn := by unfold wrap64; omega
  go_loopg [8, 9] f.length (fun kq v8 v9 w' => ∃ (i : Int) (hs1 : List Hd), v9 = .int .i64 i ∧ Aside0 (0 ≤ i ∧ i ≤ (f.length : Int) ∧ (kq : Int) + i = f.length) ∧ Aside0 (kh.R 32 w' w1.heap.size (fun _ => True) v8 hs1) ∧
    Aside0 (All w hs1 (turned f turn.toNat i.toNat)) ∧ Aside0 (Below w1.heap.size w1 w'))
  case atStart => exact ⟨0, [], rfl, ⟨by omega⟩, ⟨Kd.R_nil _ _ _ _ _⟩, ⟨⟨rfl, fun j h l hj => by simp at hj⟩⟩, ⟨pw_below_drewN (Below.refl _ _) _⟩⟩
  case round =>
    obtain ⟨i, hs1, rfl, HI, HR, HA, HB⟩ := hrel
    have hI := HI.out
    by_cases hin : i < (f.length : Int)
    · have hBr := hBw wr HB.out
      obtain ⟨j, hj⟩ : ∃ j : Nat, Int.tmod (i + turn) f.length = (j : Int) := ⟨_, (Int.toNat_of_nonneg (Int.tmod_nonneg _ (by omega))).symm⟩
      have hjl : (j : Int) < f.length := by rw [← hj]; exact Int.tmod_lt_of_pos _ (by omega)
      have hwi : wrap64 (i + turn) = i + turn := by unfold wrap64; omega
      have hw1 : wrap64 (i + 1) = i + 1 := by unfold wrap64; omega
      obtain ⟨ad, cs, rfl, -, hk, hcell⟩ := ReadsRow.get_ (Kd.C_below hhs hBr) no (j : Int) (by omega) hjl
      have hk' : cs = [hv (hs.getD (j : Int).toNat no)] := hk
      subst hk'
      have hx := hcell 0 _ rfl
      rw [show (j : Int).toNat * kh.sz + 0 = j from by show (j : Int).toNat * 1 + 0 = j; omega] at hx
      have hld := all_get hal j (by omega)
      rw [show (j : Int).toNat = j from by omega] at hx
      obtain ⟨⟨ha, hm, hcc⟩, hhd⟩ : ∃ h : Hd, hs.getD j no = h := ⟨_, rfl⟩
      rw [hhd] at hx hld
      have hx' : wr.cell? (ad.add j) = some (.slice ha hm hcc) := hx
      have hbnd : (0 : Int) ≤ (j : Int) ∧ (j : Int) < (f.length : Int) := ⟨by omega, hjl⟩
      obtain ⟨A8, c8, rfl⟩ := Kd.R_slice HR.out
      clear hcell hk hx
      go_wp2_with (first
        | ((with_reducible refine gate_dst (N := 54) rfl ?_); refine Kd.R_append_row hv no (h1 := fun _ => rfl) (w0 := w1) w1.heap.size rfl (.tmp 42) (.tmp 53) 31 32 (.slice none 0 0) 24 rfl Try.underlying31 infoH rfl (by decide) _ hs1 [(ha, hm, hcc)] (some ⟨wr.heap.size, 0, none⟩) 1 1 (fun _ => True) rfl rfl (fun _ _ => trivial) (Kd.R_alloc HR.out _) (one (ha, hm, hcc) 32) (HB.out.alloc HB.out.size _) (Nat.le_trans HB.out.size (by show wr.heap.size ≤ (wr.heap.push _).size; rw [Array.size_push]; omega)) (by have := HA.out.1; unfold turned at this; rw [List.length_map, List.length_range] at this; omega) ?_; intro v5 w5 hR5 hB5 _ _))
      obtain ⟨k1, rfl⟩ : ∃ k1, gk = k1 + 1 := ⟨gk - 1, by omega⟩
      go_roundg k1
      case measure => omega
      case rel =>
        refine ⟨i + 1, hs1 ++ [(ha, hm, hcc)], rfl, ⟨by omega⟩, ⟨hR5⟩, ⟨?_⟩, ⟨hB5⟩⟩
        rw [show (i + 1).toNat = i.toNat + 1 by omega, turned_succ, show (i.toNat + turn.toNat) % f.length = j by
          have e : ((i.toNat + turn.toNat : Nat) : Int) = i + turn := by omega
          rw [← e] at hj
          exact Int.ofNat_inj.1 hj]
        exact all_snoc HA.out hld
    · have hi : i.toNat = f.length := by omega
      have hA1 := HA.out
      rw [hi] at hA1
      have hlen : hs1.length = f.length := by have := hA1.1; unfold turned at this; rw [List.length_map, List.length_range] at this; exact this
      obtain ⟨A8, c8, rfl⟩ := Kd.R_slice HR.out
      rw [hlen] at HR ⊢
      have hB1' := HB.out
      obtain ⟨m, hm⟩ : ∃ m : Nat, m = f.length / 2 := ⟨_, rfl⟩
      have hm2 : Int.tdiv (f.length : Int) 2 = (m : Int) := by rw [hm]; rfl
      go_wp2
      go_loopg [10] m (fun kq v10 w' => ∃ (p : Int) (hs2 : List Hd) (ls2 : List (List Int)), v10 = .int .i64 p ∧ Aside0 (0 ≤ p ∧ p ≤ m ∧ (kq : Int) + p = m) ∧ Aside0 (kh.R 32 w' w1.heap.size (fun _ => True) (.slice A8 f.length c8) hs2 ∧ hs2.length = f.length) ∧
        Aside0 (All w hs2 ls2 ∧ ∀ c, c ∈ ls2 ↔ c ∈ f) ∧ Aside0 (Below w1.heap.size w1 w'))
      case atStart => exact ⟨0, hs1, turned f turn.toNat f.length, rfl, ⟨by omega⟩, ⟨HR.out, hlen⟩, ⟨hA1, fun c => turned_mem f turn.toNat c⟩, ⟨hB1'⟩⟩
      case round =>
        rename_i wr0 _
        obtain ⟨p, hs2, ls2, rfl, HI2, HR2, HA2, HB2⟩ := hrel
        have hI2 := HI2.out
        by_cases hpm : p < (m : Int)
        · have hR2 := HR2.out.1
          have hl2 := HR2.out.2
          obtain ⟨g, cap, he, -, -, -⟩ := Kd.R_form hR2 (by omega)
          injection he with he1 he2 he3
          subst he1
          clear he2 he3
          obtain ⟨P, hP⟩ : ∃ P : Int, (f.length : Int) - 1 - p = P := ⟨_, rfl⟩
          have hw2 : wrap64 ((f.length : Int) - 1) = (f.length : Int) - 1 := by unfold wrap64; omega
          have hw3 : wrap64 P = P := by unfold wrap64; omega
          have hw4 : wrap64 (p + 1) = p + 1 := by unfold wrap64; omega
          have hp0 : 0 ≤ p ∧ p < (f.length : Int) := by omega
          have hP0 : 0 ≤ P ∧ P < (f.length : Int) := by omega
          have hne : P.toNat ≠ p.toNat := by omega
          obtain ⟨x1, f1⟩ := Kd.R_celln (h1 := fun _ => rfl) no hR2 p (by omega) (by omega)
          obtain ⟨x2, f2⟩ := Kd.R_celln (h1 := fun _ => rfl) no hR2 P (by omega) (by omega)
          obtain ⟨⟨a1, m1, c1⟩, hy1⟩ : ∃ y : Hd, rdOf no hs2 p = y := ⟨_, rfl⟩
          obtain ⟨⟨a2, m2, c2⟩, hy2⟩ : ∃ y : Hd, rdOf no hs2 P = y := ⟨_, rfl⟩
          rw [hy1] at x1
          rw [hy2] at x2
          have x1' : wr.cell? ⟨g, p.toNat, none⟩ = some (.slice a1 m1 c1) := x1
          have x2' : wr.cell? ⟨g, P.toNat, none⟩ = some (.slice a2 m2 c2) := x2
          have hR3 := Kd.R_putn (h1 := fun _ => rfl) hR2 p (a2, m2, c2)
          obtain ⟨x3, f3⟩ := Kd.R_celln (h1 := fun _ => rfl) no hR3 P (by omega) (by omega)
          have hR4 := Kd.R_putn (h1 := fun _ => rfl) hR3 P (a1, m1, c1)
          have x3' : (wr.setCell ⟨g, p.toNat, none⟩ (.slice a2 m2 c2)).cell? ⟨g, P.toNat, none⟩ = some (hv (rdOf no (hs2.set p.toNat (a2, m2, c2)) P)) := x3
          have f3' : (wr.setCell ⟨g, p.toNat, none⟩ (.slice a2 m2 c2)).frozen? ⟨g, P.toNat, none⟩ = false := f3
          obtain ⟨y3, hy3⟩ : ∃ y : Value, hv (rdOf no (hs2.set p.toNat (a2, m2, c2)) P) = y := ⟨_, rfl⟩
          rw [hy3] at x3'
          have hla : ls2.length = f.length := HA2.out.1.1.symm.trans hl2
          have HA3 : All w ((hs2.set p.toNat (a2, m2, c2)).set P.toNat (a1, m1, c1)) ((ls2.set p.toNat (ls2.getD P.toNat [])).set P.toNat (ls2.getD p.toNat [])) := by
            have e1 := all_get HA2.out.1 p.toNat (by omega)
            have e2 := all_get HA2.out.1 P.toNat (by omega)
            rw [show hs2.getD p.toNat no = (a1, m1, c1) from hy1] at e1
            rw [show hs2.getD P.toNat no = (a2, m2, c2) from hy2] at e2
            exact all_set (all_set HA2.out.1 _ e2) _ e1
          have HM3 : ∀ c, c ∈ (ls2.set p.toNat (ls2.getD P.toNat [])).set P.toNat (ls2.getD p.toNat []) ↔ c ∈ f := fun c => (swap_mem ls2 [] p.toNat P.toNat (by omega) (by omega) c).trans (HA2.out.2 c)
          have hgb : w1.heap.size ≤ g := Kd.R_base hR2 g rfl
          have hB3 : Below w1.heap.size w1 ((wr.setCell ⟨g, p.toNat, none⟩ (.slice a2 m2 c2)).setCell ⟨g, P.toNat, none⟩ (.slice a1 m1 c1)) := (HB2.out.setCell (p := ⟨g, p.toNat, none⟩) hgb _).setCell (p := ⟨g, P.toNat, none⟩) hgb _
          have hL3 : Aside0 (((hs2.set p.toNat (a2, m2, c2)).set P.toNat (a1, m1, c1)).length = f.length) := ⟨by rw [List.length_set, List.length_set]; exact hl2⟩
          clear hy1 hy2 hy3 x1 x2 x3 f3 hl2
          go_wp2
          go_region
          try go_wp2
          obtain ⟨k1, rfl⟩ : ∃ k1, gk = k1 + 1 := ⟨gk - 1, by omega⟩
          go_roundg k1
          case measure => omega
          case rel => exact ⟨p + 1, _, _, rfl, ⟨by omega⟩, ⟨Kd.R_drew hR4, hL3.out⟩, ⟨HA3, HM3⟩, ⟨pw_below_drewN hB3 1⟩⟩
        · have hr := hr0.out
          obtain ⟨K1, hr1, -⟩ := hr f (fun c => Iff.rfl) rfl
          obtain ⟨K2, hr2, hsm⟩ := hr ls2 HA2.out.2 (HA2.out.1.1.symm.trans HR2.out.2)
          obtain ⟨zs, hzs0⟩ : ∃ zs : List Int, List.replicate q 0 = zs := ⟨_, rfl⟩
          rw [hzs0] at hr1 hr2
          have hzs := Aside0.mk hzs0
          clear hzs0
          have hC2 := (Kd.R_reads' HR2.out.1).2.2
          rw [HR2.out.2] at hC2
          have hcap : f.length ≤ c8 := (Kd.R_reads' HR2.out.1).2.1
          have hl2 := HA2.out.1.1.symm.trans HR2.out.2
          have hAll := Aside0.mk HA2.out.1
          have hBr := HB2.out
          clear hr hr0 HA2 HR2 HI2
          have hWr : ∀ x, Below wr.heap.size wr x → Below w.heap.size w x := fun x h => hBw x (hBr.trans (h.mono hBr.size))
          have h2 : ∀ x A6 c6, Below wr.heap.size wr x → Kd.C (Kd.int .i64) x A6 zs.length zs → zs.length ≤ c6 → Calls Try.prog 20 #[.int .i64 q, .slice A8 f.length c8, .slice A6 zs.length c6] x fun e w' => ∃ v0_ : Value, e = .returned (.tuple #[v0_, .bool x2, .int .i64 x3]) ∧ Kd.R (Kd.int .i64) 3 w' x.heap.size (fun _ => True) v0_ x1 ∧ Below x.heap.size x w' := by
            intro x A6 c6 hb hC6 hc6
            have hC := reads (hWr x hb) (Kd.C_below hC2 hb) hAll.out
            rw [← hl2] at hC hcap ⊢
            exact unit_Run.calls K2 q A8 c8 ls2 A6 c6 zs x1 x2 x3 x hC hcap hC6 hc6 hr2
          go_wp2_with (first
            | ((with_reducible refine gate_dst (N := 88) rfl ?_); refine Kd.R_make (Kd.int .i64) (w0 := wr) wr.heap.size 3 rfl (N := 88) rfl 32 (.tmp 87) (.tmp 87) rfl q rfl rfl Try.underlying32 (.int .i64 0) 8 info3 rfl (by decide) (by decide) 0 (ok := fun _ => True) (okp := fun _ => True) rfl (fun _ hk => hk) trivial (by omega) (by omega) (Below.refl _ _) (Nat.le_refl _) ?_; intro v4 w4 hR4 hB4 _ _; rw [Int.toNat_natCast, hzs.out] at hR4; obtain ⟨A4, c4, rfl, hc4, hC4⟩ := Kd.R_reads hR4)
            | ((with_reducible refine gate_dst (N := 97) rfl ?_); refine Kd.R_make (Kd.int .i64) (w0 := w5) w5.heap.size 3 rfl (N := 97) rfl 32 (.tmp 96) (.tmp 96) rfl q rfl rfl Try.underlying32 (.int .i64 0) 8 info3 rfl (by decide) (by decide) 0 (ok := fun _ => True) (okp := fun _ => True) rfl (fun _ hk => hk) trivial (by omega) (by omega) (Below.refl _ _) (Nat.le_refl _) ?_; intro v6 w6 hR6 hB6a _ _; have hB6 := hB5.trans (hB6a.mono hB5.size); rw [Int.toNat_natCast, hzs.out] at hR6; obtain ⟨A6, c6, rfl, hc6, hC6⟩ := Kd.R_reads hR6)
            | (go_at_call 20; first
                | (with_reducible refine (unit_Run.calls K1 q A c f A4 c4 zs x1 x2 x3 w4 (Kd.C_below hf (hWr w4 hB4)) hc hC4 hc4 hr1).mono ?_; rintro e w5 ⟨v5, rfl, hR5, hB5'⟩; have hB5 := hB4.trans (hB5'.mono hB4.size); obtain ⟨A5, c5, rfl, hc5, hC5⟩ := Kd.R_reads hR5)
                | (with_reducible refine (h2 w6 A6 c6 hB6 hC6 hc6).mono ?_; rintro e w7 ⟨v7, rfl, hR7, hB7'⟩; have hB7 := hB6.trans (hB7'.mono hB6.size); obtain ⟨A7, c7, rfl, hc7, hC7⟩ := Kd.R_reads hR7))
            | (go_at_call 22; (refine (crossroadslaw5_same.calls K2 A5 c5 x1 A7 c7 x1 true _ (Kd.C_below hC5 (hB6a.trans (hB7'.mono hB6a.size))) hc5 hC7 hc7 hsm).mono ?_); rintro e w' ⟨rfl, ⟨nd, rfl⟩⟩))
          go_ret
          exact ⟨rfl, pw_below_drewN (hWr _ hB7) _⟩
end Go.Proofs.Ytpjnacblaipljaa.Orders
