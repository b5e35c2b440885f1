/- tar.zero: are all bytes 0? bytes.Trim at one byte, walked over its two callees' contracts. -/
import Derived.Test.YtlnogacjebbepaaDoorQx1
import Derived.Deep.RegionLaw
namespace Go.Proofs.YtlnogacjebbepaaDoor.G
set_option linter.unusedVariables false
set_option linter.unusedSimpArgs false
open Go.RowKit Go.Proofs.YtlnogacjebbepaaDoorW.PrintWords Go.Proofs.YtlnogacjebbepaaDoorW.PrintLast Go.Proofs.YtlnogacjebbepaaDoorW.PrintMore
def stripL (l : List Int) : List Int := l.dropWhile (· == 0)
def stripR (l : List Int) : List Int := (l.reverse.dropWhile (· == 0)).reverse
theorem stripR_snoc (l : List Int) (x : Int) : stripR (l ++ [x]) = if x = 0 then stripR l else l ++ [x] := by
  unfold stripR
  rw [List.reverse_append]
  by_cases h : x = 0
  · rw [if_pos h]; simp [h]
  · rw [if_neg h]; simp [h]
theorem right_ev : ∀ (n : Nat) (l : List Int), l.length = n → n ≤ 9223372036854775807 → Ev (fun k => Q.bytes_trimRightByte.l0 k l 0) (stripR l)
  | 0, l, hl, _ => by
    obtain rfl : l = [] := List.eq_nil_of_length_eq_zero hl
    exact Ev.step (f := fun _ => some []) (fun k => by rw [Q.bytes_trimRightByte.l0, if_neg (by simp)]) (Ev.now _)
  | n + 1, l, hl, hn => by
    obtain ⟨m, x, rfl⟩ : ∃ m x, l = m ++ [x] := by
      rcases List.eq_nil_or_concat l with rfl | ⟨m, x, rfl⟩
      · cases hl
      · exact ⟨m, x, by simp⟩
    have hm : m.length = n := by simpa using hl
    have hw : wrap64 (((m ++ [x]).length : Int) - 1) = (m.length : Int) := by rw [List.length_append]; unfold wrap64; simp; omega
    have hrd : rd (m ++ [x]) (m.length : Int) = x := by unfold rd; simp
    have ht : (m ++ [x]).take ((m.length : Int)).toNat = m := by simp
    rw [stripR_snoc]
    have hl2 : ((m ++ [x]).length : Int) = (m.length : Int) + 1 := by rw [List.length_append]; rfl
    by_cases h : x = 0
    · rw [if_pos h]
      refine Ev.step (fun k => ?_) (right_ev n m hm (by omega))
      rw [Q.bytes_trimRightByte.l0, if_pos (by omega), hw, if_pos (by omega), if_pos (by omega), hrd, if_pos h, if_pos (by omega), ht]
    · rw [if_neg h]
      refine Ev.step (f := fun _ => some (m ++ [x])) (fun k => ?_) (Ev.now _)
      rw [Q.bytes_trimRightByte.l0, if_pos (by omega), hw, if_pos (by omega), if_pos (by omega), hrd, if_neg h]
theorem left_ev : ∀ (l : List Int), Ev (fun k => Q.bytes_trimLeftByte.l0 k l 0) (stripL l)
  | [] => Ev.step (f := fun _ => some []) (fun k => by rw [Q.bytes_trimLeftByte.l0, if_neg (by simp), if_pos (by simp)]) (Ev.now _)
  | x :: r => by
    have hrd : rd (x :: r) 0 = x := rfl
    have hl2 : ((x :: r).length : Int) = (r.length : Int) + 1 := by rw [List.length_cons]; rfl
    unfold stripL
    by_cases h : x = 0
    · rw [List.dropWhile_cons_of_pos (by simp [h])]
      refine Ev.step (fun k => ?_) (left_ev r)
      rw [Q.bytes_trimLeftByte.l0, if_pos (by omega), if_pos (by omega), hrd, if_pos h, if_pos (by omega)]; rfl
    · rw [List.dropWhile_cons_of_neg (by simp [h])]
      refine Ev.step (f := fun _ => some (x :: r)) (fun k => ?_) (Ev.now _)
      rw [Q.bytes_trimLeftByte.l0, if_pos (by omega), if_pos (by omega), hrd, if_neg h, if_neg (by omega)]
theorem dw_nil : ∀ l : List Int, l.dropWhile (· == 0) = [] ↔ ∀ x ∈ l, x = 0
  | [] => by simp
  | x :: r => by
    by_cases h : x = 0
    · rw [List.dropWhile_cons_of_pos (by simp [h]), dw_nil r]; simp [h]
    · rw [List.dropWhile_cons_of_neg (by simp [h])]; simp [h]
theorem dw_head : ∀ (l : List Int) (y : Int) (t : List Int), l.dropWhile (· == 0) = y :: t → y ≠ 0
  | [], y, t, h => by simp at h
  | x :: r, y, t, h => by
    by_cases hx : x = 0
    · rw [List.dropWhile_cons_of_pos (by simp [hx])] at h; exact dw_head r y t h
    · rw [List.dropWhile_cons_of_neg (by simp [hx])] at h
      injection h with h1 h2
      rw [← h1]; exact hx
def zeroB (l : List Int) : Bool := l.all (· == 0)
theorem strip_zero (l : List Int) : decide (((stripL (stripR l)).length : Int) = 0) = zeroB l := by
  have key : stripL (stripR l) = [] ↔ zeroB l = true := by
    have e : zeroB l = true ↔ ∀ x ∈ l, x = 0 := by unfold zeroB; rw [List.all_eq_true]; simp
    rw [e]
    unfold stripL
    rw [dw_nil]
    unfold stripR
    constructor
    · intro h1
      cases hd : l.reverse.dropWhile (· == 0) with
      | nil =>
        have := (dw_nil _).1 hd
        intro x hx
        exact this x (by simpa using hx)
      | cons y t =>
        exfalso
        rw [hd] at h1
        exact dw_head _ _ _ hd (h1 y (by simp))
    · intro h x hx
      rw [(dw_nil _).2 (fun x hx => h x (by simpa using hx))] at hx
      simp at hx
  rw [Bool.eq_iff_iff, decide_eq_true_iff]
  constructor
  · intro h; exact key.1 (List.eq_nil_of_length_eq_zero (by omega))
  · intro h; rw [key.2 h]; rfl
set_option maxHeartbeats 4000000 in
set_option maxRecDepth 100000 in
theorem trim_calls (A0 : Option Addr) (c0 : Nat) (l : List Int) (w : World) (hr0 : Kd.C (Kd.int .u8) w A0 l.length l) (hc0 : l.length ≤ c0) :
    Calls Tryd.prog 27 #[.slice A0 l.length c0, .string ⟨#[0]⟩] w fun e w' => ∃ A c, e = .returned (.slice A (stripL (stripR l)).length c) ∧ Below w.heap.size w w' := by
  have hlen : l.length ≤ 9223372036854775807 := hr0.2.1
  by_cases h0 : l.length = 0
  · obtain rfl : l = [] := List.eq_nil_of_length_eq_zero h0
    go_enter Tryd.func27, Tryd.ntmps27
    go_wp2_with fail
    go_ret
    exact ⟨none, 0, rfl, by repeat (first | (with_reducible first | exact Below.refl _ _ | apply below_alloc | apply pw_below_drewN | apply below_drew1))⟩
  · obtain ⟨k1, hk1⟩ := (right_ev l.length l rfl hlen).rounds
    obtain ⟨k2, hk2⟩ := (left_ev (stripR l)).rounds
    have hV : ∀ W, Below w.heap.size w W → Kd.V (Kd.int .u8) 5 W W.heap.size (fun _ => True) (.slice A0 l.length c0) l := fun W hb => Kd.V_mk hc0 (Kd.F_mono (Kd.C_F (Kd.heap_int .u8) (Kd.C_below hr0 hb)) (fun _ _ => trivial))
    have hR := fun W hb => Q.bytes_trimRightByte.calls k1 (fun _ => True) A0 c0 l 0 (stripR l) W (hV W hb) hk1
    have hn : (l.length : Int) ≠ 0 := by omega
    have hnb : ((l.length : Int) == 0) = false := beq_eq_false_iff_ne.2 hn
    go_enter Tryd.func27, Tryd.ntmps27
    go_wp2_with fail
    have HR := Aside0.mk hR
    clear hR
    have HL := Aside0.mk hk2
    clear hk1 hk2 hV hr0
    go_region_law (first
      | (refine goes_ (f := 34) (N := some 24) Tryd.func34 (by kernel_rfl) rfl #[.slice A0 l.length c0, .int .u8 0] rfl rfl rfl ?harg ?_; (case harg => (simp only [List.map_toArray, List.map_cons, List.map_nil]; rfl)); refine (HR.out _ (below_drew (Below.refl _ _))).mono ?_; rintro e W5 ⟨v5, rfl, hV5, hB5⟩; refine ⟨_, rfl, ?_⟩; obtain ⟨A5, cc5, rfl⟩ := Kd.V_slice hV5; have HB5 := Aside0.mk hB5; have HV5 := Aside0.mk hV5; clear hV5 hB5)
      | (refine goes_ (f := 33) (N := some 27) Tryd.func33 (by kernel_rfl) rfl #[.slice A5 (stripR l).length cc5, .int .u8 0] rfl rfl rfl ?harg ?_; (case harg => (simp only [List.map_toArray, List.map_cons, List.map_nil]; rfl)); refine (Q.bytes_trimLeftByte.calls k2 _ A5 cc5 (stripR l) 0 (stripL (stripR l)) _ (Kd.V_bound HV5.out) HL.out).mono ?_; rintro e W6 ⟨v6, rfl, hV6, hB6⟩; refine ⟨_, rfl, ?_⟩; obtain ⟨A6, cc6, rfl⟩ := Kd.V_slice hV6; have HB6 := Aside0.mk hB6; clear hV6 hB6))
    all_goals (try dsimp only [Act.put])
    all_goals go_wp2
    all_goals go_ret
    all_goals (first
      | exact ⟨_, _, rfl, (below_drew (Below.refl _ _)).trans (HB5.out.trans (HB6.out.mono HB5.out.size))⟩
      | (rename_i dq hq; obtain rfl : 4 = dq := Option.some.inj hq; exact ⟨_, _, rfl, (below_drew (Below.refl _ _)).trans (HB5.out.trans (HB6.out.mono HB5.out.size))⟩))
def tar_zero.f (l : List Int) : Option Bool := some (zeroB l)
set_option maxHeartbeats 4000000 in
set_option maxRecDepth 100000 in
theorem tar_zero.calls (A0 : Option Addr) (c0 : Nat) (l0 : List Int) (r : Bool) (w : World) (hr0 : Kd.C (Kd.int .u8) w A0 l0.length l0) (hc0 : l0.length ≤ c0) (h : tar_zero.f l0 = some r) :
    Calls Tryd.prog 21 #[.slice A0 l0.length c0] w fun e w' => e = .returned (.bool r) ∧ Below w.heap.size w w' := by
  obtain rfl : zeroB l0 = r := Option.some.inj h
  have hc := trim_calls A0 c0 l0 w hr0 hc0
  have hz := strip_zero l0
  have hd : ∀ n : Int, decide (n = 0) = (n == 0) := fun n => by by_cases hn : n = 0 <;> simp [hn]
  rw [hd] at hz
  go_enter Tryd.func21, Tryd.ntmps21
  go_wp2_with (go_at_call 27; refine hc.mono ?_; rintro e w' ⟨A, c, rfl, hB⟩)
  go_ret
  exact ⟨rfl, hB⟩
end Go.Proofs.YtlnogacjebbepaaDoor.G
