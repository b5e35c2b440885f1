/- clause.Eval, walked by hand: the closure that captures the truth values. -/
import Derived.Test.YtlfghalebkgclaaQx1
namespace Go.Proofs.Ytlfghalebkgclaa.G
set_option linter.unusedVariables false
set_option linter.unusedSimpArgs false
open Go.RowKit Go.Proofs.YtlfghalebkgclaaW.PrintWords Go.Proofs.YtlfghalebkgclaaW.PrintLast Go.Proofs.YtlfghalebkgclaaW.PrintMore
/-- The captured truth values' cell. -/
structure Caught (w : World) (b : Nat) (A : Option Addr) (c : Nat) (m : List Bool) : Prop where
  lt : b < w.heap.size
  cell : w.cell? ⟨b, 0, none⟩ = some (.slice A m.length c)
  rd : Kd.C Kd.bool w A m.length m
  cap : m.length ≤ c
theorem Caught.below {w w1 : World} {b : Nat} {A : Option Addr} {c : Nat} {m : List Bool} (h : Caught w b A c m) (hb : Below w.heap.size w w1) : Caught w1 b A c m :=
  ⟨Nat.lt_of_lt_of_le h.lt hb.size, (hb.cell h.lt).trans h.cell, Kd.C_below h.rd hb, h.cap⟩
set_option maxHeartbeats 1600000 in
theorem clos31 (w : World) (b : Nat) (A : Option Addr) (c : Nat) (m : List Bool) (hc : Caught w b A c m) (v : Int) (r : Bool) (h : Q.clause_holds.f v m = some r) :
    Calls Try.prog 31 #[.int .i64 v, .pointer (some ⟨b, 0, none⟩)] w fun e w' => e = .returned (.bool r) ∧ Below w.heap.size w w' := by
  have hcell := hc.cell
  go_enter Try.func31, Try.ntmps31
  go_wp2_with (go_at_call 32; refine (Q.clause_holds.calls v A c m r _ hc.rd hc.cap h).mono ?_; rintro e w' ⟨rfl, hB⟩)
  go_ret
  exact ⟨rfl, hB⟩
set_option maxHeartbeats 1600000 in
theorem index31 (w : World) (b : Nat) (A : Option Addr) (c : Nat) (m : List Bool) (hc : Caught w b A c m) (A0 : Option Addr) (c0 : Nat) (l0 : List Int) (hr0 : Kd.C (Kd.int .i64) w A0 l0.length l0)
    (pr : Int → Bool) (hp : ∀ x ∈ l0, Q.clause_holds.f x m = some (pr x)) :
    Calls Try.prog 33 #[.slice A0 l0.length c0, .func (.func 31) #[] #[.pointer (some ⟨b, 0, none⟩)]] w fun e w' => (∃ r : Int, e = .returned (.int .i64 r) ∧ Aside0 (decide (0 ≤ r) = l0.any pr)) ∧ Below w.heap.size w w' := by
  have hlen := hr0.2.1
  have HR := Aside0.mk hr0
  have HC := Aside0.mk hc
  have HP := Aside0.mk hp
  clear hr0 hc hp
  go_enter Try.func33, Try.ntmps33
  go_wp2
  go_loopg [8] l0.length (fun kq v8 w' => ∃ i : Int, v8 = .int .i64 i ∧ Aside0 (0 ≤ i ∧ (kq : Int) + i = l0.length) ∧ Aside0 ((l0.take i.toNat).any pr = false) ∧ Aside0 (Below w.heap.size w w'))
  case atStart => exact ⟨0, rfl, ⟨by omega⟩, ⟨rfl⟩, ⟨Below.refl _ _⟩⟩
  case round =>
    obtain ⟨i, rfl, HI, HA, HB⟩ := hrel
    have hI := HI.out
    have hcw := Aside0.mk (HC.out.below HB.out)
    by_cases hlt : i < (l0.length : Int)
    · have hw1 : wrap64 (i + 1) = i + 1 := by unfold wrap64; omega
      obtain ⟨ad, eA, hx⟩ := Kd.at_int (Kd.C_below HR.out HB.out) i (by omega) hlt
      subst eA
      have hib : 0 ≤ i ∧ i < (l0.length : Int) := ⟨by omega, hlt⟩
      obtain ⟨x, hxx⟩ : ∃ x, rd l0 i = x := ⟨_, rfl⟩
      rw [hxx] at hx
      have hxe : l0[i.toNat]'(by omega) = x := by
        rw [← hxx]; unfold rd
        rw [List.getD_eq_getElem?_getD, List.getElem?_eq_getElem (show i.toNat < l0.length by omega)]; rfl
      have hxm : x ∈ l0 := by rw [← hxe]; exact List.getElem_mem _
      have hcl := HP.out x hxm
      have hnx : pr x = false → (l0.take (i + 1).toNat).any pr = false := fun hg => by
        rw [show (i + 1).toNat = i.toNat + 1 by omega, List.take_add_one, List.getElem?_eq_getElem (show i.toNat < l0.length by omega), hxe, List.any_append, HA.out]
        simp [hg]
      have hyes : pr x = true → l0.any pr = true := fun hg => List.any_eq_true.2 ⟨x, hxm, hg⟩
      have hnxA := Aside0.mk hnx
      have hyA := Aside0.mk hyes
      clear hnx hyes hxe hxm hxx
      have hclA := Aside0.mk hcl
      clear hcl
      cases q : pr x
      · rw [q] at hclA
        go_wp2_with (go_at_call 31; refine (clos31 _ b A c m (by first | exact hcw.out | exact hcw.out.below (by assumption)) x false hclA.out).mono ?_; rintro e w2 ⟨rfl, hB2⟩)
        obtain ⟨k1, rfl⟩ : ∃ k1, gk = k1 + 1 := ⟨gk - 1, by omega⟩
        go_roundg k1
        case measure => omega
        case rel => exact ⟨i + 1, rfl, ⟨by omega⟩, ⟨hnxA.out q⟩, ⟨HB.out.trans (hB2.mono HB.out.size)⟩⟩
      · rw [q] at hclA
        go_wp2_with (go_at_call 31; refine (clos31 _ b A c m (by first | exact hcw.out | exact hcw.out.below (by assumption)) x true hclA.out).mono ?_; rintro e w2 ⟨rfl, hB2⟩)
        go_ret
        exact ⟨⟨_, rfl, ⟨by rw [hyA.out q]; simp; omega⟩⟩, HB.out.trans (hB2.mono HB.out.size)⟩
    · go_wp2
      go_ret
      refine ⟨⟨_, rfl, ⟨?_⟩⟩, HB.out⟩
      have := HA.out
      rw [List.take_of_length_le (by omega)] at this
      rw [this]; rfl
set_option maxHeartbeats 1600000 in
theorem contains31 (w : World) (b : Nat) (A : Option Addr) (c : Nat) (m : List Bool) (hc : Caught w b A c m) (A0 : Option Addr) (c0 : Nat) (l0 : List Int) (hr0 : Kd.C (Kd.int .i64) w A0 l0.length l0)
    (pr : Int → Bool) (hp : ∀ x ∈ l0, Q.clause_holds.f x m = some (pr x)) :
    Calls Try.prog 30 #[.slice A0 l0.length c0, .func (.func 31) #[] #[.pointer (some ⟨b, 0, none⟩)]] w fun e w' => e = .returned (.bool (l0.any pr)) ∧ Below w.heap.size w w' := by
  go_enter Try.func30, Try.ntmps30
  go_wp2_with (go_at_call 33; refine (index31 _ b A c m hc A0 c0 l0 hr0 pr hp).mono ?_; rintro e w' ⟨⟨q, rfl, hq⟩, hB⟩)
  go_ret
  exact ⟨by rw [← hq.out]; rfl, hB⟩
set_option maxRecDepth 100000 in
set_option maxHeartbeats 4000000 in
theorem eval_calls (w : World) (A0 : Option Addr) (c0 : Nat) (l0 : List (List Int)) (A1 : Option Addr) (c1 : Nat) (m : List Bool) (hr0 : Kd.C (Kd.slice 3 (Kd.int .i64)) w A0 l0.length l0) (hc0 : l0.length ≤ c0)
    (hr1 : Kd.C Kd.bool w A1 m.length m) (hc1 : m.length ≤ c1) (pr : Int → Bool) (hp : ∀ c ∈ l0, ∀ x ∈ c, Q.clause_holds.f x m = some (pr x)) :
    Calls Try.prog 15 #[.slice A0 l0.length c0, .slice A1 m.length c1] w fun e w' => e = .returned (.bool (l0.all fun c => c.any pr)) ∧ Below w.heap.size w w' := by
  have hlen := hr0.2.1
  have HR := Aside0.mk hr0
  have HP := Aside0.mk hp
  have HM := Aside0.mk hr1
  have HCm := Aside0.mk hc1
  clear hr0 hr1 hp hc0 hc1
  go_enter Try.func15, Try.ntmps15
  go_wp2
  have hb0 : Below w.heap.size w (w.alloc (Obj.cells #[Value.slice A1 m.length c1] 23)) := (Below.refl _ _).alloc (Nat.le_refl _) _
  have hcau : Aside0 (Caught (w.alloc (Obj.cells #[Value.slice A1 m.length c1] 23)) w.heap.size A1 c1 m) := ⟨⟨by show w.heap.size < (w.heap.push _).size; rw [Array.size_push]; omega, by rw [World.cell?_alloc_mark]; rfl, Kd.C_below HM.out hb0, HCm.out⟩⟩
  obtain ⟨w1, hw1e⟩ : ∃ w1, w.alloc (Obj.cells #[Value.slice A1 m.length c1] 23) = w1 := ⟨_, rfl⟩
  rw [hw1e] at hb0 hcau ⊢
  clear hw1e
  go_loopg [9] l0.length (fun kq v9 w' => ∃ i : Int, v9 = .int .i64 i ∧ Aside0 (0 ≤ i ∧ (kq : Int) + i = l0.length) ∧ Aside0 ((l0.take i.toNat).all (fun c => c.any pr) = true) ∧ Aside0 (Below w1.heap.size w1 w'))
  case atStart => exact ⟨0, rfl, ⟨by omega⟩, ⟨rfl⟩, ⟨Below.refl _ _⟩⟩
  case round =>
    obtain ⟨i, rfl, HI, HA, HB⟩ := hrel
    have hI := HI.out
    have hBw := hb0.trans (HB.out.mono hb0.size)
    by_cases hlt : i < (l0.length : Int)
    · have hw1 : wrap64 (i + 1) = i + 1 := by unfold wrap64; omega
      obtain ⟨ad, cs, rfl, -, hk, hcell⟩ := ReadsRow.get_ (Kd.C_below HR.out hBw) [] i (by omega) hlt
      obtain ⟨Ax, cx, rfl, hcx, hCx⟩ := hk
      have hx := hcell 0 _ rfl
      rw [show i.toNat * (Kd.slice 3 (Kd.int .i64)).sz + 0 = i.toNat from by show i.toNat * 1 + 0 = i.toNat; omega] at hx
      obtain ⟨x, hxx⟩ : ∃ x, l0.getD i.toNat [] = x := ⟨_, rfl⟩
      rw [hxx] at hx hCx hcx
      have hib : 0 ≤ i ∧ i < (l0.length : Int) := ⟨by omega, hlt⟩
      have hxe : l0[i.toNat]'(by omega) = x := by
        rw [← hxx, List.getD_eq_getElem?_getD, List.getElem?_eq_getElem (show i.toNat < l0.length by omega)]; rfl
      have hxm : x ∈ l0 := by rw [← hxe]; exact List.getElem_mem _
      have hpx := Aside0.mk (HP.out x hxm)
      have hCxA := Aside0.mk hCx
      have hnx : x.any pr = true → (l0.take (i + 1).toNat).all (fun c => c.any pr) = true := fun hg => by
        rw [show (i + 1).toNat = i.toNat + 1 by omega, List.take_add_one, List.getElem?_eq_getElem (show i.toNat < l0.length by omega), hxe, List.all_append, HA.out]
        simp [hg]
      have hno : x.any pr = false → l0.all (fun c => c.any pr) = false := fun hg => List.all_eq_false.2 ⟨x, hxm, by rw [hg]; decide⟩
      have hnxA := Aside0.mk hnx
      have hnoA := Aside0.mk hno
      have hcw := Aside0.mk (hcau.out.below HB.out)
      clear hnx hno hxe hxm hxx hCx hcell
      cases q : x.any pr
      · have hcl := contains31 wr w.heap.size A1 c1 m hcw.out Ax cx x hCxA.out pr hpx.out
        rw [q] at hcl
        have hclA := Aside0.mk hcl
        clear hcl
        go_wp2_with (go_at_call 30; refine hclA.out.mono ?_; rintro e w2 ⟨rfl, hB2⟩)
        go_ret
        exact ⟨by rw [hnoA.out q]; rfl, hBw.trans (hB2.mono hBw.size)⟩
      · have hcl := contains31 wr w.heap.size A1 c1 m hcw.out Ax cx x hCxA.out pr hpx.out
        rw [q] at hcl
        have hclA := Aside0.mk hcl
        clear hcl
        go_wp2_with (go_at_call 30; refine hclA.out.mono ?_; rintro e w2 ⟨rfl, hB2⟩)
        obtain ⟨k1, rfl⟩ : ∃ k1, gk = k1 + 1 := ⟨gk - 1, by omega⟩
        go_roundg k1
        case measure => omega
        case rel => exact ⟨i + 1, rfl, ⟨by omega⟩, ⟨hnxA.out q⟩, ⟨HB.out.trans (hB2.mono HB.out.size)⟩⟩
    · go_wp2
      go_ret
      refine ⟨?_, hBw⟩
      have := HA.out
      rw [List.take_of_length_le (by omega)] at this
      rw [this]; rfl
def holdsO (m : List Bool) (x : Int) : Bool := (Q.clause_holds.f x m).getD false
def clause_Eval.f (l0 : List (List Int)) (m : List Bool) : Option Bool := if (l0.all fun c => c.all fun x => (Q.clause_holds.f x m).isSome) = true then some (l0.all fun c => c.any (holdsO m)) else none
theorem clause_Eval.calls (A0 : Option Addr) (c0 : Nat) (l0 : List (List Int)) (A1 : Option Addr) (c1 : Nat) (l1 : List Bool) (r : Bool) (w : World) (hr0 : Kd.C (Kd.slice 3 (Kd.int .i64)) w A0 l0.length l0) (hc0 : l0.length ≤ c0)
    (hr1 : Kd.C Kd.bool w A1 l1.length l1) (hc1 : l1.length ≤ c1) (h : clause_Eval.f l0 l1 = some r) :
    Calls Try.prog 15 #[.slice A0 l0.length c0, .slice A1 l1.length c1] w fun e w' => e = .returned (.bool r) ∧ Below w.heap.size w w' := by
  unfold clause_Eval.f at h
  by_cases hh : (l0.all fun c => c.all fun x => (Q.clause_holds.f x l1).isSome) = true
  · rw [if_pos hh] at h
    injection h with h
    subst h
    refine eval_calls w A0 c0 l0 A1 c1 l1 hr0 hc0 hr1 hc1 (holdsO l1) fun c hc x hx => ?_
    have h1 := List.all_eq_true.1 (List.all_eq_true.1 hh c hc) x hx
    unfold holdsO
    cases q : Q.clause_holds.f x l1 with
    | none => rw [q] at h1; cases h1
    | some b => rfl
  · rw [if_neg hh] at h; cases h
end Go.Proofs.Ytlfghalebkgclaa.G
