/- Rows that came in, told by their headers; a formula and a clause more. -/
import Derived.Test.YtnhpfdnhnocgjaaHpV
namespace Go.Proofs.Ytnhpfdnhnocgjaa.S
open Go.RowKit Go.Proofs.Ytnhpfdnhnocgjaa.D Go.Proofs.Ytnhpfdnhnocgjaa.Lem Go.Proofs.YtnhpfdnhnocgjaaW.PrintWords Go.Proofs.YtnhpfdnhnocgjaaW.PrintLast Go.Proofs.YtnhpfdnhnocgjaaW.PrintMore
set_option linter.unusedVariables false
set_option linter.unusedSimpArgs false
/-- A slice's header. -/
abbrev Hd := Option Addr × Nat × Nat
def hv (h : Hd) : Value := .slice h.1 h.2.1 h.2.2
def kh : Kd Hd := Kd.scalar hv (fun _ => rfl)
def no : Hd := (none, 0, 0)
/-- What a header leads to, in the world in which it came in. -/
def Leads (W : World) (h : Hd) (l : List Int) : Prop := h.2.1 = l.length ∧ l.length ≤ h.2.2 ∧ (Kd.int .i64).C W h.1 l.length l
def All (W : World) (hs : List Hd) (ls : List (List Int)) : Prop := hs.length = ls.length ∧ ∀ (j : Nat) (h : Hd) (l : List Int), hs[j]? = some h → ls[j]? = some l → Leads W h l
theorem heads {W : World} {A : Option Addr} {n : Nat} {ls : List (List Int)} (h : (Kd.slice 3 (Kd.int .i64)).C W A n ls) : ∃ hs, kh.C W A n hs ∧ All W hs ls := by
  obtain ⟨h1, h2, h3⟩ := h
  by_cases hn : 0 < n
  · obtain ⟨ad, rfl, hc⟩ := h3 hn
    have hex : ∀ j : Nat, ∃ hd : Hd, ∀ l, ls[j]? = some l → Leads W hd l ∧ W.cell? (ad.add j) = some (hv hd) := by
      intro j
      cases hj : ls[j]? with
      | none => exact ⟨no, fun l hl => by simp at hl⟩
      | some l =>
        obtain ⟨c, hlen, ⟨A', c', rfl, hle, hC⟩, hcell⟩ := hc j l hj
        refine ⟨(A', l.length, c'), fun l' hl' => ?_⟩
        injection hl' with hl'
        subst hl'
        refine ⟨⟨rfl, hle, hC⟩, ?_⟩
        have := hcell 0 _ rfl
        rw [show j * (Kd.slice 3 (Kd.int .i64)).sz + 0 = j from by show j * 1 + 0 = j; omega] at this
        exact this
    refine ⟨(List.range n).map (fun j => (hex j).choose), ⟨by simp, h2, fun _ => ⟨ad, rfl, ?_⟩⟩, by simp [h1], ?_⟩
    · intro j p hj
      obtain ⟨hjl, hje⟩ := List.getElem?_eq_some_iff.1 hj
      rw [List.length_map, List.length_range] at hjl
      rw [List.getElem_map, List.getElem_range] at hje
      subst hje
      obtain ⟨l, hl⟩ : ∃ l, ls[j]? = some l := ⟨ls[j]'(by omega), List.getElem?_eq_getElem (by omega)⟩
      refine ⟨[hv (hex j).choose], rfl, rfl, ?_⟩
      intro i u hu
      cases i with
      | zero =>
        injection hu with hu
        subst hu
        rw [show j * kh.sz + 0 = j from by show j * 1 + 0 = j; omega]
        exact ((hex j).choose_spec l hl).2
      | succ i => simp at hu
    · intro j h l hj hl
      obtain ⟨hjl, hje⟩ := List.getElem?_eq_some_iff.1 hj
      rw [List.getElem_map, List.getElem_range] at hje
      subst hje
      exact ((hex j).choose_spec _ hl).1
  · obtain rfl : n = 0 := by omega
    have : ls = [] := List.length_eq_zero_iff.1 h1
    subst this
    exact ⟨[], ⟨rfl, by omega, fun h => absurd h (by omega)⟩, rfl, fun j h l hj => by simp at hj⟩
theorem reads {W w : World} (hb : Below W.heap.size W w) {A : Option Addr} {n : Nat} {hs : List Hd} {ls : List (List Int)} (h : kh.C w A n hs) (hl : All W hs ls) : (Kd.slice 3 (Kd.int .i64)).C w A n ls := by
  obtain ⟨h1, h2, h3⟩ := h
  refine ⟨hl.1.symm.trans h1, h2, fun hn => ?_⟩
  obtain ⟨ad, rfl, hc⟩ := h3 hn
  refine ⟨ad, rfl, fun j l hj => ?_⟩
  have hjl := (List.getElem?_eq_some_iff.1 hj).1
  obtain ⟨hd, hhd⟩ : ∃ hd, hs[j]? = some hd := ⟨hs[j]'(by have := hl.1; omega), List.getElem?_eq_getElem _⟩
  obtain ⟨e1, e2, e3⟩ := hl.2 j hd l hhd hj
  obtain ⟨c, hlen, hk, hcell⟩ := hc j hd hhd
  have hk' : c = [hv hd] := hk
  subst hk'
  obtain ⟨a, m, cc⟩ := hd
  obtain rfl : m = l.length := e1
  exact ⟨[hv (a, l.length, cc)], rfl, ⟨a, cc, rfl, e2, Kd.C_below e3 hb⟩, hcell⟩
theorem all_append {W : World} {hs hs' : List Hd} {ls ls' : List (List Int)} (h : All W hs ls) (h' : All W hs' ls') : All W (hs ++ hs') (ls ++ ls') := by
  refine ⟨by rw [List.length_append, List.length_append, h.1, h'.1], fun j x y hx hy => ?_⟩
  by_cases hj : j < ls.length
  · rw [List.getElem?_append_left (by rw [h.1]; exact hj)] at hx
    rw [List.getElem?_append_left hj] at hy
    exact h.2 j x y hx hy
  · rw [List.getElem?_append_right (by rw [h.1]; omega)] at hx
    rw [List.getElem?_append_right (by omega)] at hy
    rw [h.1] at hx
    exact h'.2 _ x y hx hy
theorem leads_below {W w : World} {h : Hd} {l : List Int} (hl : Leads W h l) (hb : Below W.heap.size W w) : Leads w h l := ⟨hl.1, hl.2.1, Kd.C_below hl.2.2 hb⟩
theorem all_below {W w : World} {hs : List Hd} {ls : List (List Int)} (h : All W hs ls) (hb : Below W.heap.size W w) : All w hs ls := ⟨h.1, fun j x y hx hy => leads_below (h.2 j x y hx hy) hb⟩
theorem all_one {W : World} {h : Hd} {l : List Int} (hl : Leads W h l) : All W [h] [l] := ⟨rfl, fun j x y hx hy => by
  cases j with
  | zero =>
    injection hx with hx; injection hy with hy
    subst hx; subst hy
    exact hl
  | succ j => simp at hx⟩
/-- Headers of the call's own, and what they lead to: a formula that comes in. -/
theorem In.heads {W w : World} {base : Nat} {ok : Nat → Prop} {A : Option Addr} {n c : Nat} {hs : List Hd} {F : List (List Int)} {N : Nat} (hb : Below W.heap.size W w) (h : kh.R 37 w base ok (.slice A n c) hs) (ha : All W hs F) (hN : N ≤ 65536) (hF : ∀ d ∈ F, ∀ x ∈ d, okL N x) (hl : F.length ≤ 5864062014804) (hr : ∀ d ∈ F, d.length < 17592186044416) : n = F.length ∧ In w A c F := by
  obtain ⟨h1, h2, h3⟩ := Kd.R_reads' h
  have e : n = F.length := h1.trans ha.1
  refine ⟨e, ?_, by omega, came_ok hN hF hl hr, hl, hr⟩
  have := reads hb h3 ha
  rw [ha.1] at this
  exact this
theorem R_sl {α : Type} {d : Kd α} {e base : Nat} {w : World} {ok : Nat → Prop} {v : Value} {xs : List α} (h : d.R e w base ok v xs) : ∃ A n c, v = .slice A n c := by
  obtain ⟨A, c, e⟩ := Kd.R_slice h
  exact ⟨_, _, _, e⟩
/-- One clause alone. -/
theorem in_one {W : World} {A : Option Addr} {c : Nat} {L : List Int} (h : (Kd.int .i64).C W A L.length L) (hc : L.length ≤ c) (hw : ∀ v ∈ L, W64 v) (hl : L.length < 17592186044416) : In (W.alloc (.cells #[.slice A L.length c] 37)) (some ⟨W.heap.size, 0, none⟩) 1 [L] := by
  have hb := blk_new W (.cells #[.slice A L.length c] 37)
  refine ⟨C_rows (F := [L]) (by simp) (fun j x hj => ?_) hb, Nat.le_refl _, ⟨by simp, fun d hd => ?_⟩, by simp, fun d hd => ?_⟩
  · cases j with
    | zero =>
      injection hj with hj
      subst hj
      exact ⟨A, c, rfl, hc, Kd.C_below h (below_alloc (Below.refl _ _) _)⟩
    | succ j => simp at hj
  · obtain rfl := List.mem_singleton.1 hd
    exact ⟨by omega, hw⟩
  · obtain rfl := List.mem_singleton.1 hd
    exact hl
/-- What an assignment is not. -/
def nots (a : List Bool) (k : Nat) : List Int := (List.range k).map fun i : Nat => if a.getD i false = true then -((i : Int) + 1) else (i : Int) + 1
theorem nots_succ (a : List Bool) (k : Nat) : nots a (k + 1) = nots a k ++ [if a.getD k false = true then -((k : Int) + 1) else (k : Int) + 1] := by unfold nots; rw [List.range_succ, List.map_append, List.map_singleton]
theorem nots_len (a : List Bool) (k : Nat) : (nots a k).length = k := by unfold nots; rw [List.length_map, List.length_range]
theorem nots_abs (a : List Bool) (k : Nat) : (nots a k).map Int.natAbs = (List.range k).map fun i => i + 1 := by
  unfold nots
  rw [List.map_map]
  refine List.map_congr_left fun i _ => ?_
  show Int.natAbs (if a.getD i false = true then -((i : Int) + 1) else (i : Int) + 1) = i + 1
  split <;> omega
theorem nots_ok (a : List Bool) (k : Nat) : ∀ x ∈ nots a k, okL k x := by
  intro x hx
  unfold nots at hx
  obtain ⟨i, hi, rfl⟩ := List.mem_map.1 hx
  have := List.mem_range.1 hi
  unfold okL
  split <;> omega
theorem nots_forbid {K : Nat} {F : List (List Int)} {a : List Bool} (hF : ∀ d ∈ F, ∀ x ∈ d, okL K x) (hs : satF (bitsOf a) F = true) : cnt K F [] = cnt K (F ++ [nots a K]) [] + 1 := by
  refine cnt_forbid (nots_len a K) (by rw [nots_abs]; exact List.pairwise_map.2 (List.Pairwise.imp (fun h => by omega) (List.nodup_range (n := K)))) (nots_ok a K) fun s h => ?_
  have hag : ∀ v, 1 ≤ v → v ≤ K → s v = bitsOf a v := fun v h1 h2 => by
    have hm : (if a.getD (v - 1) false = true then -(((v - 1 : Nat) : Int) + 1) else ((v - 1 : Nat) : Int) + 1) ∈ nots a K := by unfold nots; exact List.mem_map.2 ⟨v - 1, List.mem_range.2 (by omega), rfl⟩
    have h3 := h _ (List.mem_map.2 ⟨_, hm, rfl⟩)
    unfold bitsOf
    cases hv : a.getD (v - 1) false with
    | true =>
      rw [hv, if_pos rfl] at h3
      unfold lit at h3
      rw [decide_eq_true (show (0 : Int) < -(-(((v - 1 : Nat) : Int) + 1)) by omega), show (-(-(((v - 1 : Nat) : Int) + 1))).natAbs = v by omega] at h3
      simpa using h3
    | false =>
      rw [hv, if_neg (by decide)] at h3
      unfold lit at h3
      rw [decide_eq_false (show ¬ (0 : Int) < -(((v - 1 : Nat) : Int) + 1) by omega), show (-(((v - 1 : Nat) : Int) + 1)).natAbs = v by omega] at h3
      simpa using h3
  rw [satF_iff] at hs ⊢
  intro d hd
  have := hs d hd
  rw [satC_iff] at this ⊢
  obtain ⟨x, hx, hl⟩ := this
  have hk := hF d hd x hx
  refine ⟨x, hx, ?_⟩
  unfold lit at hl ⊢
  rw [hag _ (by have := hk.1; omega) hk.2]
  exact hl
theorem ok_snoc {K : Nat} {F : List (List Int)} {c : List Int} (hF : ∀ d ∈ F, ∀ x ∈ d, okL K x) (hc : ∀ x ∈ c, okL K x) : ∀ d ∈ F ++ [c], ∀ x ∈ d, okL K x := by
  intro d hd
  rcases List.mem_append.1 hd with hd | hd
  · exact hF d hd
  · obtain rfl := List.mem_singleton.1 hd
    exact hc
/-- Count, of few variables. -/
theorem count_few {w : World} {A : Option Addr} {c : Nat} {F : List (List Int)} {K : Nat} (h : In w A c F) (hK : K ≤ 12) (hF : ∀ d ∈ F, ∀ x ∈ d, okL K x) : Calls Try.prog 16 #[.int .i64 (K : Int), .slice A F.length c, .int .i64 1048576] w fun e w' => e = .returned (.tuple #[.int .i64 (cnt K F [] : Int), .int .i64 0]) ∧ Below w.heap.size w w' := by
  have := count16 h (K : Int) 1048576 (by decide)
  have hp : (2 : Nat) ^ K ≤ 2 ^ 12 := Nat.pow_le_pow_right (by decide) hK
  have hle := cnt_le K F []
  have e : countV (K : Int) F 1048576 = ((cnt K F [] : Int), 0) := by
    unfold countV
    rw [if_pos ⟨may_of (by omega) hF, by decide, by omega⟩, Int.toNat_natCast]
    have : minI (cnt K F [] : Int) 1048576 = (cnt K F [] : Int) := by unfold minI; split <;> omega
    rw [this]
  rw [e] at this
  exact this
end Go.Proofs.Ytnhpfdnhnocgjaa.S
