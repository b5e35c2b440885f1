/- The reference's Normal, walked by hand: literals put in one by one, in order. -/
import Derived.Test.YtlfghalebkgclaaProg
import Derived.Below
import Derived.Deep.Draws
import Derived.Deep.AppendLies
import Derived.Maps.AppendAt
import Derived.OwnWalk
import Derived.Laws.BytesArg
import Derived.Laws.MakeOwn
import Derived.Laws.OwnMore
import Derived.Deep.OwnRows
import Derived.Tactics
import Derived.Lib.ConvBytes
import Derived.Laws.Slices
import Derived.WalkKit
import Derived.WalkSpells
import Derived.KernelRfl
import Derived.RowKit3
import Derived.Deep.LoopGhost
import Derived.Deep.QuietTactic
import Derived.BigQuiet
import Derived.WideLaws
import Derived.Deep.DeepCutAuto
import Derived.Deep.CutBlock
import Derived.Deep.RegionHeld3
import Derived.Laws.Rows
import Derived.Lib.AppendStr
import Derived.ArgAppend
import Derived.Laws.IdiomCopy
import Derived.OrdersHeld
import Derived.Laws.BitsLemmas
import Derived.RowKit
import Derived.Test.YtlfghalebkgclaaWMore
import Derived.Test.YtlfghalebkgclaaWInvWords
import Derived.Test.YtlfghalebkgclaaWGuard
import Derived.Test.YtlfghalebkgclaaWNEv
import Derived.Test.YtlfghalebkgclaaGRef
import Derived.Deep.RegionLaw
namespace Go.Proofs.Ytlfghalebkgclaa.G
set_option linter.unusedVariables false
set_option linter.unusedSimpArgs false
open Go.RowKit Go.Proofs.YtlfghalebkgclaaW.PrintWords Go.Proofs.YtlfghalebkgclaaW.PrintLast Go.Proofs.YtlfghalebkgclaaW.PrintMore
/-- Two neighbours that say the opposite. -/
def clash (r : List Int) : Bool := (List.range r.length).any fun i => decide (0 < i) && (r.getD i 0 == wrap64 (-(r.getD (i - 1) 0)))
def insR (l : Int) (out : List Int) : List Int := if out[(out.takeWhile fun x => lessR x l).length]? = some l then out else out.take (out.takeWhile fun x => lessR x l).length ++ [l] ++ out.drop (out.takeWhile fun x => lessR x l).length
def stepR (out : List Int) (l : Int) : List Int := if l = 0 ∨ l = wrap64 (-l) then out else insR l out
def endN (out : List Int) : List Int × Bool := if clash out = true then ([], true) else (out, false)
def normR (c : List Int) : List Int × Bool := endN (c.foldl stepR [])
theorem clash_at {r : List Int} {i : Int} (h0 : 0 < i) (h1 : i < r.length) (h : rdOf 0 r i = wrap64 (-(rdOf 0 r (i - 1)))) : clash r = true := by
  unfold clash
  rw [List.any_eq_true]
  refine ⟨i.toNat, by rw [List.mem_range]; omega, ?_⟩
  unfold rdOf at h
  rw [Bool.and_eq_true]
  refine ⟨decide_eq_true (by omega), ?_⟩
  rw [show (i - 1).toNat = i.toNat - 1 by omega] at h
  exact beq_iff_eq.2 h
theorem clash_no {r : List Int} (h : ∀ i : Int, 0 < i → i < r.length → rdOf 0 r i ≠ wrap64 (-(rdOf 0 r (i - 1)))) : clash r = false := by
  unfold clash
  rw [List.any_eq_false]
  intro i hi
  rw [List.mem_range] at hi
  rw [Bool.and_eq_true]
  rintro ⟨h1, h2⟩
  have h1 := of_decide_eq_true h1
  have h2 := beq_iff_eq.1 h2
  refine h i (by omega) (by omega) ?_
  unfold rdOf
  rw [show ((i : Int) - 1).toNat = i - 1 by omega, show (i : Int).toNat = i by omega]
  exact h2
theorem tw_length (p : Int → Bool) (out : List Int) (j : Int) (h0 : 0 ≤ j) (hj : j ≤ out.length) (ha : ∀ t : Int, 0 ≤ t → t < j → p (rdOf 0 out t) = true) (hz : j = out.length ∨ p (rdOf 0 out j) = false) : (out.takeWhile p).length = j.toNat := by
  obtain ⟨n, rfl⟩ : ∃ n : Nat, j = n := ⟨j.toNat, by omega⟩
  clear h0
  rw [Int.toNat_natCast]
  induction n generalizing out with
  | zero =>
    rcases hz with hz | hz
    · have : out = [] := List.eq_nil_of_length_eq_zero (by omega)
      subst this; rfl
    · cases out with
      | nil => rfl
      | cons x t =>
        have hz : p x = false := hz
        rw [List.takeWhile_cons, hz]; rfl
  | succ n ih =>
    cases out with
    | nil => simp at hj; omega
    | cons x t =>
      have hx : p x = true := ha 0 (by omega) (by omega)
      rw [List.takeWhile_cons, hx, if_pos rfl, List.length_cons, ih t (by simp at hj; omega)]
      · intro s h1 h2
        have := ha (s + 1) (by omega) (by omega)
        unfold rdOf at this ⊢
        rw [show (s + 1).toNat = s.toNat + 1 by omega] at this
        exact this
      · rcases hz with hz | hz
        · left; simp at hz; omega
        · right
          unfold rdOf at hz ⊢
          rw [Int.toNat_natCast] at hz ⊢
          exact hz
theorem C_one {w : World} {b : Nat} {x : Int} (h : w.cell? ⟨b, 0, none⟩ = some (.int .i64 x)) : (Kd.int .i64).C w (some ⟨b, 0, none⟩) 1 [x] := by
  refine ⟨rfl, by omega, fun _ => ⟨_, rfl, fun j p hj => ?_⟩⟩
  cases j with
  | zero =>
    injection hj with hj
    subst hj
    refine ⟨[.int .i64 x], rfl, rfl, fun i u hu => ?_⟩
    cases i with
    | zero =>
      injection hu with hu
      subst hu
      exact h
    | succ i => simp at hu
  | succ j => simp at hj
theorem step_gate {P : Program} {ops : Array Oper} {o : Oper} {a : Act} {W : World} {Q : Exit → Act → World → Prop} {Kc : Act → World → Prop} {xs : Array Operand} (ho : o.op = .call { callee := .builtin .append, args := xs, argTypes := #[22, 22] })
    (h : if Region.wanted o (yielded ops a.tmps) = true then Oper.wp P o a W Kc Q else Kc (a.put o.dst undef) W) : if Region.wanted o (yielded ops a.tmps) = true then Oper.wp P o a W Kc Q else Kc (a.put o.dst undef) W := h
theorem app_at {ops : Array Oper} {o : Oper} {a : Act} {W wz : World} {Q : Exit → Act → World → Prop} {Kc : Act → World → Prop} (x y : Operand) (v : Value) (xs ys : List Int) (A : Option Addr) (m c : Nat)
    (ho : o.op = .call { callee := .builtin .append, args := #[x, y], argTypes := #[22, 22] }) (hw : Region.wanted o (yielded ops a.tmps) = true) (hs : a.eval x = v) (hx : a.eval y = .slice A m c)
    (HO : Kd.R (Kd.int .i64) 3 W wz.heap.size (fun _ => True) v xs) (HC : Kd.C (Kd.int .i64) W A m ys) (HB : Below wz.heap.size wz W) (hl : xs.length + m ≤ 17592186044416)
    (h : ∀ v1 W1, Kd.R (Kd.int .i64) 3 W1 wz.heap.size (fun _ => True) v1 (xs ++ ys) → Below wz.heap.size wz W1 → W.grownBy W1 v.ownBlock → Kc (a.put o.dst v1) W1) :
    if Region.wanted o (yielded ops a.tmps) = true then Oper.wp Try.prog o a W Kc Q else Kc (a.put o.dst undef) W :=
  Kd.R_append_rows_step (Kd.int .i64) (w0 := wz) wz.heap.size hw x y 22 3 (.int .i64 0) 8 ho Try.underlying22 infoClone3 rfl (by decide) (by decide) v xs ys A m c (fun _ => True) (fun _ => False) hs hx HO HC (fun _ _ h => h) (fun _ h => h.elim) (fun _ _ => trivial) HB HB.size (by omega) (fun v1 W1 a1 a2 a3 _ => h v1 W1 a1 a2 a3)
theorem foldl_drop (f : List Int → Int → List Int) (c : List Int) (i : Int) (o : List Int) (h0 : 0 ≤ i) (h1 : i < c.length) : (c.drop i.toNat).foldl f o = (c.drop (i + 1).toNat).foldl f (f o (rdOf 0 c i)) := by
  rw [show (i + 1).toNat = i.toNat + 1 by omega, List.drop_eq_getElem_cons (show i.toNat < c.length by omega), List.foldl_cons]
  unfold rdOf
  rw [List.getD_eq_getElem?_getD, List.getElem?_eq_getElem (show i.toNat < c.length by omega)]; rfl
theorem rdOf_some {out : List Int} {j l : Int} (h0 : 0 ≤ j) (h1 : j < out.length) : out[j.toNat]? = some l ↔ rdOf 0 out j = l := by
  unfold rdOf
  rw [List.getD_eq_getElem?_getD, List.getElem?_eq_getElem (show j.toNat < out.length by omega)]
  simp
set_option maxRecDepth 100000 in
set_option maxHeartbeats 4000000 in
theorem ref_normal (w : World) (A : Option Addr) (c : Nat) (l : List Int) (hr : Kd.C (Kd.int .i64) w A l.length l) (hc : l.length ≤ c) (hlim : l.length < 17592186044416) (r1 : List Int) (r2 : Bool) (hres : normR l = (r1, r2)) :
    Calls Try.prog 11 #[.slice A l.length c] w fun e w' => ∃ v0_ : Value, e = .returned (.tuple #[v0_, .bool r2]) ∧ Kd.R (Kd.int .i64) 3 w' w.heap.size (fun _ => True) v0_ r1 ∧ Below w.heap.size w w' := by
  have hlen := hr.2.1
  have HR := Aside0.mk hr
  have HC := Aside0.mk hc
  obtain ⟨X, hX⟩ : ∃ X, l.foldl stepR [] = X := ⟨_, rfl⟩
  have HX := Aside0.mk hX
  have HE : Aside0 (endN X = (r1, r2)) := ⟨by rw [← hX]; exact hres⟩
  clear hr hc hX hres
  go_enter Try.func11, Try.ntmps11
  go_wp2
  go_loopg [4, 5] l.length (fun kq v4 v5 w' => ∃ (i : Int) (out : List Int), v5 = .int .i64 i ∧ Aside0 (0 ≤ i ∧ (kq : Int) + i = l.length ∧ (out.length : Int) ≤ i) ∧ Aside0 (Kd.R (Kd.int .i64) 3 w' w.heap.size (fun _ => True) v4 out) ∧ Aside0 ((l.drop i.toNat).foldl stepR out = X) ∧ Aside0 (Below w.heap.size w w'))
  case atStart => exact ⟨0, [], rfl, ⟨by simp⟩, ⟨Kd.R_nil _ _ _ _ _⟩, ⟨by rw [← HX.out]; rfl⟩, ⟨Below.refl _ _⟩⟩
  case round =>
    clear HX
    obtain ⟨i, out, rfl, HI, HO, HF, HB⟩ := hrel
    have hI := HI.out
    by_cases hlt : i < (l.length : Int)
    · have hw1 : wrap64 (i + 1) = i + 1 := by unfold wrap64; omega
      obtain ⟨k1, rfl⟩ : ∃ k1, gk = k1 + 1 := ⟨gk - 1, by omega⟩
      obtain ⟨ad, eA, hx⟩ := Kd.at_int (Kd.C_below HR.out HB.out) i (by omega) hlt
      subst eA
      have hib : 0 ≤ i ∧ i < (l.length : Int) := ⟨by omega, hlt⟩
      have hF := foldl_drop stepR l i out hib.1 hlt
      rw [HF.out] at hF
      obtain ⟨x, hxx⟩ : ∃ x, rd l i = x := ⟨_, rfl⟩
      rw [hxx] at hx
      have hxe : rdOf 0 l i = x := hxx
      rw [hxe] at hF
      clear hxx hxe HF
      by_cases hz : x = 0 ∨ x = wrap64 (-x)
      · have hst : stepR out x = out := by unfold stepR; rw [if_pos hz]
        rw [hst] at hF
        have hFA := Aside0.mk hF.symm
        clear hF hst
        by_cases h0 : x = 0
        · subst h0
          go_wp2
          go_roundg k1
          case measure => omega
          case rel => exact ⟨i + 1, out, rfl, ⟨by omega⟩, HO, hFA, HB⟩
        · have b0 : (x == 0) = false := beq_eq_false_iff_ne.mpr h0
          have b1 : (x == wrap64 (-x)) = true := beq_iff_eq.mpr (hz.resolve_left h0)
          clear hz h0
          go_wp2
          go_roundg k1
          case measure => omega
          case rel => exact ⟨i + 1, out, rfl, ⟨by omega⟩, HO, hFA, HB⟩
      · have hst : stepR out x = insR x out := by unfold stepR; rw [if_neg hz]
        rw [hst] at hF
        have b0 : (x == 0) = false := beq_eq_false_iff_ne.mpr (fun h => hz (.inl h))
        have b1 : (x == wrap64 (-x)) = false := beq_eq_false_iff_ne.mpr (fun h => hz (.inr h))
        have hFA := Aside0.mk hF.symm
        clear hF hst hz
        obtain ⟨A4, c4, rfl⟩ := Kd.R_slice HO.out
        have HC4 := Aside0.mk (Kd.R_reads' HO.out).2.2
        have HC4c := Aside0.mk (Kd.R_reads' HO.out).2.1
        go_wp2
        go_loopg [7] out.length (fun kq v7 w' => ∃ j : Int, v7 = .int .i64 j ∧ Aside0 (0 ≤ j ∧ (kq : Int) + j = out.length) ∧ Aside0 (∀ t : Int, 0 ≤ t → t < j → lessR (rdOf 0 out t) x = true) ∧ w' = wr)
        case atStart => exact ⟨0, rfl, ⟨by omega⟩, ⟨fun t h1 h2 => absurd h2 (by omega)⟩, rfl⟩
        case round =>
          obtain ⟨j, rfl, HJ, HL, rfl⟩ := hrel
          rename World => wz
          have hJ := HJ.out
          have hw2 : wrap64 (j + 1) = j + 1 := by unfold wrap64; omega
          by_cases hjl : j < (out.length : Int)
          · obtain ⟨ad4, e4, hx4⟩ := Kd.at_int HC4.out j (by omega) hjl
            subst e4
            have hjb : 0 ≤ j ∧ j < (out.length : Int) := ⟨by omega, hjl⟩
            obtain ⟨y, hy⟩ : ∃ y, rd out j = y := ⟨_, rfl⟩
            rw [hy] at hx4
            have hyA : Aside0 (rdOf 0 out j = y) := ⟨hy⟩
            clear hy
            cases q : lessR y x
            · have hl2 := less28 y x
              rw [q] at hl2
              have hl2A := Aside0.mk hl2
              have htw : Aside0 ((out.takeWhile fun y => lessR y x).length = j.toNat) := ⟨tw_length (fun y => lessR y x) out j (by omega) (by omega) HL.out (.inr (by show lessR (rdOf 0 out j) x = false; rw [hyA.out]; exact q))⟩
              clear hl2
              by_cases hyx : y = x
              · have b2 : (y == x) = true := beq_iff_eq.mpr hyx
                have hst : insR x out = out := by
                  unfold insR
                  rw [htw.out, if_pos ((rdOf_some (by omega) hjl).2 (hyA.out.trans hyx))]
                have hFB : Aside0 ((l.drop (i + 1).toNat).foldl stepR out = X) := ⟨by rw [← hFA.out, hst]⟩
                clear hyx hst hFA
                go_wp2_with (go_at_call 28; refine (hl2A.out _).mono ?_; rintro e w' ⟨rfl, rfl⟩)
                go_roundg k1
                case measure => omega
                case rel => exact ⟨i + 1, out, rfl, ⟨by omega⟩, HO, hFB, HB⟩
              · have b2 : (y == x) = false := beq_eq_false_iff_ne.mpr hyx
                have hst : insR x out = out.take j.toNat ++ [x] ++ out.drop j.toNat := by
                  unfold insR
                  rw [htw.out, if_neg (fun h => hyx (hyA.out.symm.trans ((rdOf_some (by omega) hjl).1 h)))]
                have hFB : Aside0 ((l.drop (i + 1).toNat).foldl stepR (out.take j.toNat ++ [x] ++ out.drop j.toNat) = X) := ⟨by rw [← hFA.out, hst]⟩
                clear hyx hst hFA
                go_wp2_with (go_at_call 28; refine (hl2A.out _).mono ?_; rintro e w' ⟨rfl, rfl⟩)
                rename World => wz
                have HP1 := Aside0.mk (Kd.C_take (m := j.toNat) HC4.out (by omega))
                have hj0 : ((j.toNat : Nat) : Int) = j := by omega
                have l1 : (out.take j.toNat).length = j.toNat := by rw [List.length_take]; omega
                have l2 : (out.drop j.toNat).length = out.length - j.toNat := by rw [List.length_drop]
                have hsz : out.length + 1 < 17592186044416 := by omega
                rw [l1] at HP1
                have HP2 : Aside0 (Kd.C (Kd.int .i64) wz (if c4 = j.toNat then some ad4 else some (ad4.add j.toNat)) (out.length - j.toNat) (out.drop j.toNat)) := ⟨by
                  have h := Kd.C_drop (m := j.toNat) (c := c4) HC4.out (by omega) HC4c.out
                  rw [l2] at h
                  rw [show j.toNat * (Kd.int .i64).sz = j.toNat from Nat.mul_one _] at h
                  first | exact h | (rw [Nat.sub_self] at h; exact h)⟩
                have s2 := HC4c.out
                have s1 : 0 ≤ j ∧ j ≤ (out.length : Int) ∧ j ≤ (c4 : Int) := by omega
                have s3 : j ≤ (c4 : Int) := by omega
                have s4 : j ≤ (out.length : Int) := by omega
                have L1 : Aside0 ((([] : List Int).length + j.toNat) ≤ 17592186044416) := ⟨by rw [List.length_nil]; omega⟩
                have L2 : Aside0 ((out.take j.toNat).length + 1 ≤ 17592186044416) := ⟨by omega⟩
                have L3 : Aside0 ((out.take j.toNat ++ [x]).length + (out.length - j.toNat) ≤ 17592186044416) := ⟨by rw [List.length_append, List.length_singleton]; omega⟩
                clear l1 l2 hj0 hsz
                go_wp2
                go_region_law (first
                  | ((with_reducible refine step_gate (xs := #[.tmp 59, .tmp 62]) rfl ?_); refine app_at (wz := wz) (.tmp 59) (.tmp 62) v2 (out.take j.toNat ++ [x]) (out.drop j.toNat) (if c4 = j.toNat then some ad4 else some (ad4.add j.toNat)) (out.length - j.toNat) (c4 - j.toNat) rfl rfl ?cS ?cX ?cO ?cR ?cB L3.out ?_; (case cS => simp [Act.eval, Act.put]); (case cX => simp [Act.eval, Act.put]); (case cO => (with_reducible repeat (first | apply Kd.R_alloc | apply Kd.R_drewN | apply Kd.R_drew)); exact hR2); (case cR => exact Kd.C_below HP2.out (by repeat (first | exact hB2 | apply below_alloc | apply pw_below_drewN | apply below_drew))); (case cB => repeat (first | exact hB2 | apply below_alloc | apply pw_below_drewN | apply below_drew)); intro v3 W3 hR3 hB3 hG3)
                  | ((with_reducible refine step_gate (xs := #[.const (.slice none 0 0), .tmp 55]) rfl ?_); refine app_at (wz := wz) (.const (.slice none 0 0)) (.tmp 55) (.slice none 0 0) [] (out.take j.toNat) (some ad4) j.toNat c4 rfl rfl rfl ?aX (Kd.R_nil _ _ _ _ _) ?aR ?aB L1.out ?_; (case aX => simp [Act.eval, Act.put]); (case aR => exact Kd.C_below HP1.out (by repeat (first | exact Below.refl _ _ | apply below_alloc | apply pw_below_drewN | apply below_drew))); (case aB => repeat (first | exact Below.refl _ _ | apply below_alloc | apply pw_below_drewN | apply below_drew)); intro v1 W1 hR1 hB1 hG1; rw [List.nil_append] at hR1)
                  | ((with_reducible refine step_gate (xs := #[.tmp 56, .tmp 58]) rfl ?_); refine app_at (wz := wz) (.tmp 56) (.tmp 58) v1 (out.take j.toNat) [x] (some ⟨W1.heap.size, 0, none⟩) 1 1 rfl rfl ?bS ?bX ?bO ?bR ?bB L2.out ?_; (case bS => simp [Act.eval, Act.put]); (case bX => simp [Act.eval, Act.put]); (case bO => (with_reducible repeat (first | apply Kd.R_alloc | apply Kd.R_drewN | apply Kd.R_drew)); exact hR1); (case bR => exact C_one (by rw [World.cell?_alloc_mark]; rfl)); (case bB => repeat (first | exact hB1 | apply below_alloc | apply pw_below_drewN | apply below_drew)); intro v2 W2 hR2 hB2 hG2)
                  | ((with_reducible refine step_gate (xs := #[.tmp 56, .tmp 58]) rfl ?_); refine app_at (wz := wz) (.tmp 56) (.tmp 58) v1 (out.take j.toNat) [x] (some ⟨wz.heap.size, 0, none⟩) 1 1 rfl rfl ?dS ?dX ?dO ?dR ?dB L2.out ?_; (case dS => simp [Act.eval, Act.put]); (case dX => simp [Act.eval, Act.put]); (case dO => (with_reducible repeat (first | apply Kd.R_alloc | apply Kd.R_drewN | apply Kd.R_drew)); exact hR1); (case dR => exact C_one (by show W1.cell? _ = _; refine World.grownBy.cell hG1 ?_ (by simp [Value.ownBlock]); show (wz.alloc (Obj.cells #[Value.int IntKind.i64 x] 3)).cell? _ = _; rw [World.cell?_alloc_mark]; rfl)); (case dB => repeat (first | exact hB1 | apply below_alloc | apply pw_below_drewN | apply below_drew)); intro v2 W2 hR2 hB2 hG2))
                all_goals go_wp2
                all_goals go_roundg k1
                all_goals (first | (case measure => omega) | (case rel => exact ⟨i + 1, _, rfl, ⟨by have := L3.out; simp only [List.length_append, List.length_take, List.length_drop, List.length_singleton]; omega⟩, ⟨Kd.R_lower hR3 HB.out.size⟩, hFB, ⟨HB.out.trans (hB3.mono HB.out.size)⟩⟩))
            · have hl2 := less28 y x
              rw [q] at hl2
              have hl2A := Aside0.mk hl2
              clear hl2
              go_wp2_with (go_at_call 28; refine (hl2A.out _).mono ?_; rintro e w' ⟨rfl, rfl⟩)
              obtain ⟨k2, rfl⟩ : ∃ k2, gk = k2 + 1 := ⟨gk - 1, by omega⟩
              go_roundg k2
              case measure => omega
              case rel => exact ⟨j + 1, rfl, ⟨by omega⟩, ⟨fun t h1 h2 => by
                by_cases ht : t < j
                · exact HL.out t h1 ht
                · rw [show t = j by omega, hyA.out]; exact q⟩, rfl⟩
          · obtain rfl : j = (out.length : Int) := by omega
            have htw : Aside0 ((out.takeWhile fun y => lessR y x).length = out.length) := ⟨by have := tw_length (fun y => lessR y x) out out.length (by omega) (by omega) HL.out (.inl rfl); rwa [Int.toNat_natCast] at this⟩
            have hst : insR x out = out.take out.length ++ [x] ++ out.drop out.length := by
              unfold insR
              rw [htw.out, if_neg (by rw [List.getElem?_eq_none (Nat.le_refl _)]; exact fun h => nomatch h)]
            have hFB : Aside0 ((l.drop (i + 1).toNat).foldl stepR (out.take out.length ++ [x] ++ out.drop out.length) = X) := ⟨by rw [← hFA.out, hst]⟩
            clear hst hFA
            go_wp2
            have HP1 := Aside0.mk (Kd.C_take (m := out.length) HC4.out (by omega))
            have hj0 : ((out.length : Nat) : Int) = (out.length : Int) := by omega
            have l1 : (out.take out.length).length = out.length := by rw [List.length_take]; omega
            have l2 : (out.drop out.length).length = out.length - out.length := by rw [List.length_drop]
            have hsz : out.length + 1 < 17592186044416 := by omega
            rw [l1] at HP1
            have HP2 : Aside0 (Kd.C (Kd.int .i64) wz (if c4 = out.length then A4 else Option.map (fun x => x.add out.length) A4) 0 (out.drop out.length)) := ⟨by
              have h := Kd.C_drop (m := out.length) (c := c4) HC4.out (by omega) HC4c.out
              rw [l2] at h
              rw [show out.length * (Kd.int .i64).sz = out.length from Nat.mul_one _] at h
              first | exact h | (rw [Nat.sub_self] at h; exact h)⟩
            have s2 := HC4c.out
            have s1 : 0 ≤ (out.length : Int) ∧ (out.length : Int) ≤ (out.length : Int) ∧ (out.length : Int) ≤ (c4 : Int) := by omega
            have s3 : (out.length : Int) ≤ (c4 : Int) := by omega
            have s4 : (out.length : Int) ≤ (out.length : Int) := by omega
            have L1 : Aside0 ((([] : List Int).length + out.length) ≤ 17592186044416) := ⟨by rw [List.length_nil]; omega⟩
            have L2 : Aside0 ((out.take out.length).length + 1 ≤ 17592186044416) := ⟨by omega⟩
            have L3 : Aside0 ((out.take out.length ++ [x]).length + 0 ≤ 17592186044416) := ⟨by rw [List.length_append, List.length_singleton]; omega⟩
            clear l1 l2 hj0 hsz
            go_wp2
            go_region_law (first
              | ((with_reducible refine step_gate (xs := #[.tmp 59, .tmp 62]) rfl ?_); refine app_at (wz := wz) (.tmp 59) (.tmp 62) v2 (out.take out.length ++ [x]) (out.drop out.length) (if c4 = out.length then A4 else Option.map (fun x => x.add out.length) A4) 0 (c4 - out.length) rfl rfl ?cS ?cX ?cO ?cR ?cB L3.out ?_; (case cS => simp [Act.eval, Act.put]); (case cX => simp [Act.eval, Act.put]); (case cO => (with_reducible repeat (first | apply Kd.R_alloc | apply Kd.R_drewN | apply Kd.R_drew)); exact hR2); (case cR => exact Kd.C_below HP2.out (by repeat (first | exact hB2 | apply below_alloc | apply pw_below_drewN | apply below_drew))); (case cB => repeat (first | exact hB2 | apply below_alloc | apply pw_below_drewN | apply below_drew)); intro v3 W3 hR3 hB3 hG3)
              | ((with_reducible refine step_gate (xs := #[.const (.slice none 0 0), .tmp 55]) rfl ?_); refine app_at (wz := wz) (.const (.slice none 0 0)) (.tmp 55) (.slice none 0 0) [] (out.take out.length) A4 out.length c4 rfl rfl rfl ?aX (Kd.R_nil _ _ _ _ _) ?aR ?aB L1.out ?_; (case aX => simp [Act.eval, Act.put]); (case aR => exact Kd.C_below HP1.out (by repeat (first | exact Below.refl _ _ | apply below_alloc | apply pw_below_drewN | apply below_drew))); (case aB => repeat (first | exact Below.refl _ _ | apply below_alloc | apply pw_below_drewN | apply below_drew)); intro v1 W1 hR1 hB1 hG1; rw [List.nil_append] at hR1)
              | ((with_reducible refine step_gate (xs := #[.tmp 56, .tmp 58]) rfl ?_); refine app_at (wz := wz) (.tmp 56) (.tmp 58) v1 (out.take out.length) [x] (some ⟨W1.heap.size, 0, none⟩) 1 1 rfl rfl ?bS ?bX ?bO ?bR ?bB L2.out ?_; (case bS => simp [Act.eval, Act.put]); (case bX => simp [Act.eval, Act.put]); (case bO => (with_reducible repeat (first | apply Kd.R_alloc | apply Kd.R_drewN | apply Kd.R_drew)); exact hR1); (case bR => exact C_one (by rw [World.cell?_alloc_mark]; rfl)); (case bB => repeat (first | exact hB1 | apply below_alloc | apply pw_below_drewN | apply below_drew)); intro v2 W2 hR2 hB2 hG2)
              | ((with_reducible refine step_gate (xs := #[.tmp 56, .tmp 58]) rfl ?_); refine app_at (wz := wz) (.tmp 56) (.tmp 58) v1 (out.take out.length) [x] (some ⟨wz.heap.size, 0, none⟩) 1 1 rfl rfl ?dS ?dX ?dO ?dR ?dB L2.out ?_; (case dS => simp [Act.eval, Act.put]); (case dX => simp [Act.eval, Act.put]); (case dO => (with_reducible repeat (first | apply Kd.R_alloc | apply Kd.R_drewN | apply Kd.R_drew)); exact hR1); (case dR => exact C_one (by show W1.cell? _ = _; refine World.grownBy.cell hG1 ?_ (by simp [Value.ownBlock]); show (wz.alloc (Obj.cells #[Value.int IntKind.i64 x] 3)).cell? _ = _; rw [World.cell?_alloc_mark]; rfl)); (case dB => repeat (first | exact hB1 | apply below_alloc | apply pw_below_drewN | apply below_drew)); intro v2 W2 hR2 hB2 hG2))
            all_goals go_wp2
            all_goals go_roundg k1
            all_goals (first | (case measure => omega) | (case rel => exact ⟨i + 1, _, rfl, ⟨by have := L3.out; simp only [List.length_append, List.length_take, List.length_drop, List.length_singleton]; omega⟩, ⟨Kd.R_lower hR3 HB.out.size⟩, hFB, ⟨HB.out.trans (hB3.mono HB.out.size)⟩⟩))
    · obtain rfl : gk = 0 := by omega
      have hXe : X = out := by
        have := HF.out
        rw [List.drop_of_length_le (by omega)] at this
        exact this.symm
      have HE2 : Aside0 (endN out = (r1, r2)) := ⟨by rw [← hXe]; exact HE.out⟩
      clear hXe HF HE
      obtain ⟨A4, c4, rfl⟩ := Kd.R_slice HO.out
      have HC4 := Aside0.mk (Kd.R_reads' HO.out).2.2
      rename World => wz
      go_wp2
      go_loopg [8] out.length (fun kq v8 w' => ∃ j : Int, v8 = .int .i64 j ∧ Aside0 (1 ≤ j ∧ (kq : Int) + j = out.length + 1) ∧ Aside0 (∀ t : Int, 0 < t → t < j → rdOf 0 out t ≠ wrap64 (-(rdOf 0 out (t - 1)))) ∧ Aside0 (∃ q, w' = wz.drewN q))
      case atStart => exact ⟨1, rfl, ⟨by omega⟩, ⟨fun t h1 h2 => absurd h2 (by omega)⟩, ⟨0, rfl⟩⟩
      case round =>
        obtain ⟨j, rfl, HJ, HL, HD⟩ := hrel
        have hJ := HJ.out
        obtain ⟨q, hq⟩ := HD.out
        subst hq
        have hw2 : wrap64 (j + 1) = j + 1 := by unfold wrap64; omega
        have hw3 : wrap64 (j - 1) = j - 1 := by unfold wrap64; omega
        by_cases hjl : j < (out.length : Int)
        · obtain ⟨ad4, e4, hx4⟩ := Kd.at_int HC4.out j (by omega) hjl
          subst e4
          obtain ⟨ad5, e5, hx5⟩ := Kd.at_int HC4.out (j - 1) (by omega) (by omega)
          injection e5 with e5
          subst e5
          have hjb : 0 ≤ j ∧ j < (out.length : Int) := ⟨by omega, hjl⟩
          have hjc : 0 ≤ j - 1 ∧ j - 1 < (out.length : Int) := ⟨by omega, by omega⟩
          obtain ⟨y, hy⟩ : ∃ y, rd out j = y := ⟨_, rfl⟩
          rw [hy] at hx4
          have hyA : Aside0 (rdOf 0 out j = y) := ⟨hy⟩
          clear hy
          obtain ⟨z, hz⟩ : ∃ z, rd out (j - 1) = z := ⟨_, rfl⟩
          rw [hz, show (j - 1).toNat = j.toNat - 1 by omega] at hx5
          have hzA : Aside0 (rdOf 0 out (j - 1) = z) := ⟨hz⟩
          clear hz
          have hx4d : ∀ m, (wz.drewN m).cell? (ad4.add j.toNat) = some (.int .i64 y) := fun _ => hx4
          have hx5d : ∀ m, (wz.drewN m).cell? (ad4.add (j.toNat - 1)) = some (.int .i64 z) := fun _ => hx5
          by_cases hc : y = wrap64 (-z)
          · have b1 : (y == wrap64 (-z)) = true := beq_iff_eq.mpr hc
            have hcl : clash out = true := clash_at (i := j) (by omega) hjl (by rw [hyA.out, hzA.out]; exact hc)
            have hE : Aside0 (r1 = [] ∧ r2 = true) := ⟨by
              have h := HE2.out
              unfold endN at h
              rw [if_pos hcl] at h
              injection h with h1 h2
              exact ⟨h1.symm, h2.symm⟩⟩
            clear hc hcl
            go_wp2
            go_region
            all_goals go_wp2
            all_goals go_ret2
            all_goals (obtain ⟨h1, h2⟩ := hE.out; subst h1; subst h2; exact ⟨_, rfl, Kd.R_nil _ _ _ _ _, by repeat (first | exact HB.out | apply pw_below_drewN | apply below_drew)⟩)
          · have b1 : (y == wrap64 (-z)) = false := beq_eq_false_iff_ne.mpr hc
            have hcA := Aside0.mk hc
            clear hc
            obtain ⟨k2, rfl⟩ : ∃ k2, gk = k2 + 1 := ⟨gk - 1, by omega⟩
            go_wp2
            go_region
            all_goals go_wp2
            all_goals go_roundg k2
            all_goals (first | (case measure => omega) | (case rel => exact ⟨j + 1, rfl, ⟨by omega⟩, ⟨fun t h1 h2 => by
              by_cases ht : t < j
              · exact HL.out t h1 ht
              · rw [show t = j by omega, hyA.out, hzA.out]; exact hcA.out⟩, ⟨⟨_, rfl⟩⟩⟩))
        · have hcl : clash out = false := clash_no (fun t h1 h2 => HL.out t h1 (by omega))
          have hE : Aside0 (r1 = out ∧ r2 = false) := ⟨by
            have h := HE2.out
            unfold endN at h
            rw [hcl, if_neg (by decide)] at h
            injection h with h1 h2
            exact ⟨h1.symm, h2.symm⟩⟩
          clear hcl
          go_wp2
          go_ret2
          obtain ⟨h1, h2⟩ := hE.out
          subst h1
          subst h2
          exact ⟨_, rfl, Kd.R_below HO.out (pw_below_drewN (Below.refl _ _) q), by repeat (first | exact HB.out | apply pw_below_drewN | apply below_drew)⟩
def crossroadsref1_Normal.f (l0 : List Int) : Option (List Int × Bool) := if l0.length < 17592186044416 then some (normR l0) else none
theorem crossroadsref1_Normal.calls (A0 : Option Addr) (c0 : Nat) (l0 : List Int) (r1 : List Int) (r2 : Bool) (w : World) (hr0 : Kd.C (Kd.int .i64) w A0 l0.length l0) (hc0 : l0.length ≤ c0) (h : crossroadsref1_Normal.f l0 = some (r1, r2)) :
    Calls Try.prog 11 #[.slice A0 l0.length c0] w fun e w' => ∃ v0_ : Value, e = .returned (.tuple #[v0_, .bool r2]) ∧ Kd.R (Kd.int .i64) 3 w' w.heap.size (fun _ => True) v0_ r1 ∧ Below w.heap.size w w' := by
  unfold crossroadsref1_Normal.f at h
  by_cases hl : l0.length < 17592186044416
  · rw [if_pos hl] at h
    exact ref_normal w A0 c0 l0 hr0 hc0 hl r1 r2 (Option.some.inj h)
  · rw [if_neg hl] at h; cases h
end Go.Proofs.Ytlfghalebkgclaa.G
