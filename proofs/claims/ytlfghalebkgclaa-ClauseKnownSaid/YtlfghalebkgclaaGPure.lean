/- clause.Pure, walked by hand: a map of literals that were seen. -/
import Derived.Test.YtlfghalebkgclaaProg
import Derived.Below
import Derived.Deep.Draws
import Derived.Deep.AppendLies
import Derived.Maps.AppendAt
import Derived.OwnWalk
import Derived.Laws.BytesArg
import Derived.Laws.MakeOwn
import Derived.Laws.OwnMore
import Derived.Deep.OwnRows
import Derived.Tactics
import Derived.Lib.ConvBytes
import Derived.Laws.Slices
import Derived.WalkKit
import Derived.WalkSpells
import Derived.KernelRfl
import Derived.RowKit3
import Derived.Deep.LoopGhost
import Derived.Deep.QuietTactic
import Derived.BigQuiet
import Derived.WideLaws
import Derived.Deep.DeepCutAuto
import Derived.Deep.CutBlock
import Derived.Deep.RegionHeld3
import Derived.Laws.Rows
import Derived.Lib.AppendStr
import Derived.ArgAppend
import Derived.Laws.IdiomCopy
import Derived.OrdersHeld
import Derived.Laws.BitsLemmas
import Derived.RowKit
import Derived.Test.YtlfghalebkgclaaWMore
import Derived.Test.YtlfghalebkgclaaWInvWords
import Derived.Test.YtlfghalebkgclaaWGuard
import Derived.Test.YtlfghalebkgclaaWNEv
import Derived.Test.YtlfghalebkgclaaGMay
import Derived.Test.YtlfghalebkgclaaGRefN
import Derived.Maps.Own
import Derived.Maps.Views
import Derived.Maps.OwnOps
import Derived.Maps.OwnSet
import Derived.WalkArith
namespace Go.Proofs.Ytlfghalebkgclaa.G
set_option linter.unusedVariables false
set_option linter.unusedSimpArgs false
open Go.RowKit Go.Proofs.YtlfghalebkgclaaW.PrintWords Go.Proofs.YtlfghalebkgclaaW.PrintLast Go.Proofs.YtlfghalebkgclaaW.PrintMore
open Go.Maps
theorem mem_ins (x : Lit × DataW Unit) : ∀ (l : List (Lit × DataW Unit)) (p : Lit × DataW Unit), p ∈ DataW.insert x l → p = x ∨ p ∈ l
  | [], p, h => by
    unfold DataW.insert at h
    exact Or.inl (List.mem_singleton.1 h)
  | y :: r, p, h => by
    unfold DataW.insert at h
    split at h
    · rcases List.mem_cons.1 h with h | h
      · exact Or.inl h
      · exact Or.inr h
    · rcases List.mem_cons.1 h with h | h
      · exact Or.inr (by rw [h]; exact List.mem_cons_self)
      · exact (mem_ins x r p h).imp id (List.mem_cons_of_mem _)
theorem few : ∀ (N : Nat) (l : List Nat), l.Pairwise (· ≠ ·) → (∀ x ∈ l, x < N) → l.length ≤ N
  | 0, l, _, h => by
    cases l with
    | nil => exact Nat.le_refl _
    | cons x t => exact absurd (h x List.mem_cons_self) (Nat.not_lt_zero _)
  | N + 1, l, hp, h => by
    have h1 := few N (l.filter fun x => decide (x ≠ N)) (hp.filter _) (fun x hx => by
      have h2 := List.mem_filter.1 hx
      have := h x h2.1
      have := of_decide_eq_true h2.2
      omega)
    have h2 : ∀ l : List Nat, l.Pairwise (· ≠ ·) → l.length ≤ (l.filter fun x => decide (x ≠ N)).length + 1 := by
      intro l
      induction l with
      | nil => intro _; exact Nat.zero_le _
      | cons x t ih =>
        intro hp
        rw [List.pairwise_cons] at hp
        by_cases hx : x = N
        · subst hx
          rw [List.filter_cons_of_neg (by simp), List.filter_eq_self.2 (fun y hy => decide_eq_true (hp.1 y hy).symm), List.length_cons]
          exact Nat.le_refl _
        · have e : (x :: t).filter (fun x => decide (x ≠ N)) = x :: t.filter (fun x => decide (x ≠ N)) := by simp [List.filter_cons, hx]
          rw [e, List.length_cons, List.length_cons]
          have := ih hp.2
          omega
    have := h2 l hp
    omega
/-- Block b is a set that holds what is on the list; its keys are no great numbers. -/
def SetL (w : World) (b : Nat) (L : List Int) : Prop :=
  ∃ es : List (Lit × DataW Unit), w.ownsMap Try.prog 3 (plainElem Try.prog 4) b 131073 (.map es) ∧ (∀ p ∈ es, ∃ k : Int, p.1 = .int .i64 k ∧ -65536 ≤ k ∧ k ≤ 65536) ∧ ∀ k : Int, (DataW.map es).atKey (.int .i64 k) (.lit (.bool false)) = .lit (.bool (decide (k ∈ L)))
theorem law3 : Keyed Try.prog 3 := int_keyed Try.underlying3
theorem zero4 (w : World) : (zeroValue 4).run Try.prog w = .ok (.bool false) w := Try.zeroValue4 w
theorem setL_made (w : World) : SetL (w.alloc (.map #[] 0)) w.heap.size [] := ⟨[], (World.ownsMap_made _ _ _ _).mono (Nat.zero_le _), fun p hp => absurd hp (by simp), fun k => rfl⟩
theorem SetL.look {w : World} {b : Nat} {L : List Int} (h : SetL w b L) (k : Int) (hk : (Lit.int .i64 k).wf = true) : (Instr.lookup 48 (.map (some b)) (.int .i64 k) false).run Try.prog w = .ok (.bool (decide (k ∈ L))) w := by
  obtain ⟨es, hown, _, hat⟩ := h
  obtain ⟨v, ps, hrun, hv⟩ := hown.lookup law3 Try.underlying48 (zero4 w) (plainElem_bool Try.underlying4 false) (keyOf_int_mk Try.underlying3 hk)
  rw [hat k] at hv
  rw [hrun]
  unfold plainElem at hv
  rw [Try.underlying4] at hv
  cases v <;> simp at hv
  rw [hv.1]
theorem SetL.below {w w' : World} {b : Nat} {L : List Int} (h : SetL w b L) (hb : Below w.heap.size w w') : SetL w' b L := by
  obtain ⟨D, ⟨es, clock, hh, r1⟩, r⟩ := h
  exact ⟨D, ⟨es, clock, (hb.block b (Array.getElem?_eq_some_iff.1 hh).1).trans hh, r1⟩, r⟩
theorem few_entries {es : List (Lit × DataW Unit)} (ht : Tidy (DataW.map es)) (hk : ∀ p ∈ es, ∃ k : Int, p.1 = .int .i64 k ∧ -65536 ≤ k ∧ k ≤ 65536) : es.length ≤ 131073 := by
  obtain ⟨es', he, hp⟩ := ht
  injection he with he
  subst he
  have h1 : (es.map fun p => match p.1 with | .int _ k => (k + 65536).toNat | _ => 0).Pairwise (· ≠ ·) := by
    rw [List.pairwise_map]
    refine hp.imp_of_mem ?_
    intro p q hp hq hne heq
    obtain ⟨k, e1, k1, k2⟩ := hk p hp
    obtain ⟨j, e2, j1, j2⟩ := hk q hq
    rw [e1, e2] at heq
    have heq : (k + 65536).toNat = (j + 65536).toNat := heq
    exact hne (by rw [e1, e2, show k = j by omega])
  have h2 := few 131073 _ h1 (fun x hx => by
    obtain ⟨p, hp, rfl⟩ := List.mem_map.1 hx
    obtain ⟨k, e1, k1, k2⟩ := hk p hp
    rw [e1]
    show (k + 65536).toNat < 131073
    omega)
  rwa [List.length_map] at h2
theorem setL_update (w : World) {ops : Array Oper} {rest : List Oper} {o : Oper} {a : Act} {Q : Exit → Act → World → Prop} (m x v : Operand)
    (hg : o.guard = none) (hop : o.op = Op.mapUpdate 48 m x v) (b : Nat) (L : List Int) (hs : SetL w b L) (k : Int) (hk : -65536 ≤ k ∧ k ≤ 65536)
    (hm : a.eval m = .map (some b)) (hx : a.eval x = .int .i64 k) (hv : a.eval v = .bool true)
    (hK : ∀ w', SetL w' b (L ++ [k]) → w.grownBy w' (some b) → wpList Try.prog ops Q rest (a.put o.dst undef) w') : wpList Try.prog ops Q (o :: rest) a w := by
  obtain ⟨es, hown, hrange, hat⟩ := hs
  have hwf : (Lit.int .i64 k).wf = true := WalkArith.wf_i64 (by omega)
  refine wpList_mapUpdate_own w hg m x v 48 hop 3 4 law3 Try.underlying48 _ b 131073 (DataW.map es) hm hown (by unfold maxLen; omega) (.int .i64 k) (.bool true) (.int .i64 k) hx hv (keyOf_int_mk Try.underlying3 hwf) _ [] (plainElem_bool Try.underlying4 true) ?_
  intro w' h1 h2
  have hput : (DataW.map es).put (.int .i64 k) (.lit (.bool true)) = DataW.map (DataW.insert (Lit.int .i64 k, .lit (.bool true)) (es.filter fun p => !p.1.sameKey (.int .i64 k))) := rfl
  have hrange' : ∀ p ∈ DataW.insert (Lit.int .i64 k, DataW.lit (.bool true)) (es.filter fun p => !p.1.sameKey (.int .i64 k)), ∃ j : Int, p.1 = .int .i64 j ∧ -65536 ≤ j ∧ j ≤ 65536 := fun p hp => by
    rcases mem_ins _ _ p hp with rfl | hp
    · exact ⟨k, rfl, hk⟩
    · exact hrange p (List.mem_filter.1 hp).1
  rw [hput] at h1
  have hfew := few_entries (h1.tidy law3) hrange'
  refine hK w' ⟨_, ?_, hrange', fun j => ?_⟩ h2
  · obtain ⟨es0, clock, e1, e2, e3, e4⟩ := h1
    refine ⟨es0, clock, e1, e2, ?_, e4⟩
    have := e4
    injection this with e5
    rw [e5, length_sorted, List.length_map, Array.length_toList] at hfew
    exact hfew
  · rw [← hput]
    by_cases hj : j = k
    · subst hj
      rw [atKey_put_same ⟨es, rfl⟩ (show WideAt.IsKeyLit (.int .i64 j) from trivial), decide_eq_true (List.mem_append_right L (List.mem_singleton.2 rfl))]
    · rw [atKey_put_other (fun e => hj (by injection e)), hat j]
      congr 2
      refine decide_eq_decide.2 ?_
      rw [List.mem_append, List.mem_singleton]
      exact ⟨Or.inl, fun h => h.resolve_right hj⟩
/-- What stands one way alone, up to a number. -/
def occ (f : List (List Int)) (v : Int) : Bool := decide (v ∈ f.flatten)
def pureTo (f : List (List Int)) : Nat → List Int
  | 0 => []
  | k + 1 => pureTo f k ++ (if occ f (k + 1) = occ f (-(k + 1)) then [] else if occ f (k + 1) = true then [(k : Int) + 1] else [-((k : Int) + 1)])
def pureF (n : Int) (f : List (List Int)) : List Int := if mayF n f = true then pureTo f n.toNat else []
theorem pureTo_length (f : List (List Int)) : ∀ k, (pureTo f k).length ≤ k
  | 0 => Nat.le_refl _
  | k + 1 => by
    unfold pureTo
    rw [List.length_append]
    have := pureTo_length f k
    split
    · simp; omega
    · split <;> simp <;> omega
set_option maxRecDepth 100000 in
set_option maxHeartbeats 4000000 in
theorem pure18 (w : World) (n : Int) (A : Option Addr) (c : Nat) (f : List (List Int)) (hr : Kd.C (Kd.slice 3 (Kd.int .i64)) w A f.length f) (hc : f.length ≤ c) (hwf : ∀ c ∈ f, ∀ v ∈ c, (Lit.int .i64 v).wf = true) :
    Calls Try.prog 18 #[.int .i64 n, .slice A f.length c] w fun e w' => ∃ v0_ : Value, e = .returned v0_ ∧ Kd.R (Kd.int .i64) 3 w' w.heap.size (fun _ => True) v0_ (pureF n f) ∧ Below w.heap.size w w' := by
  have hmay := may17 w n A c f hr
  have hmm := @run_makeMap Try.prog
  have hlen := hr.2.1
  have HR := Aside0.mk hr
  have HW := Aside0.mk hwf
  clear hr hc hwf
  cases q : mayF n f
  · rw [q] at hmay
    have hE : Aside0 (pureF n f = []) := ⟨by unfold pureF; rw [q]; rfl⟩
    have hmA := Aside0.mk hmay
    clear hmay q
    go_enter Try.func18, Try.ntmps18
    go_wp2_with (go_at_call 17; refine hmA.out.mono ?_; rintro e w1 ⟨rfl, hw1⟩; have hw2 := hw1.symm; subst hw2; clear hw1)
    go_ret
    exact ⟨_, rfl, by rw [hE.out]; exact Kd.R_nil _ _ _ _ _, Below.refl _ _⟩
  · rw [q] at hmay
    have hE : Aside0 (pureF n f = pureTo f n.toNat) := ⟨by unfold pureF; rw [q]; rfl⟩
    have hmA := Aside0.mk hmay
    have hq : 0 ≤ n ∧ n ≤ 65536 ∧ Aside0 (∀ c ∈ f, ∀ v ∈ c, -65536 ≤ v ∧ v ≤ 65536) := by
      unfold mayF at q
      rw [Bool.and_eq_true, Bool.and_eq_true] at q
      refine ⟨of_decide_eq_true q.1.1, of_decide_eq_true q.1.2, ⟨fun c hc v hv => ?_⟩⟩
      have h1 := List.all_eq_true.1 (List.all_eq_true.1 q.2 c hc) v hv
      unfold okV at h1
      rw [Bool.and_eq_true] at h1
      have h2 := of_decide_eq_true h1.1
      have h3 := of_decide_eq_true h1.2
      have h4 := of_decide_eq_true q.1.2
      have h5 := HW.out c hc v hv
      simp [Lit.wf, IntKind.min, IntKind.max, IntKind.bits, IntKind.signed] at h5
      unfold num at h2 h3
      by_cases hm : v = -9223372036854775808
      · rw [if_pos hm] at h2; omega
      · rw [if_neg hm] at h3
        unfold mx at h3
        have hw : wrap64 (-v) = -v := by unfold wrap64; omega
        rw [hw] at h3
        split at h3 <;> omega
    obtain ⟨hn0, hn1, HV⟩ := hq
    clear hmay q
    go_enter Try.func18, Try.ntmps18
    go_wp2_with (go_at_call 17; refine hmA.out.mono ?_; rintro e w1 ⟨rfl, hw1⟩; have hw2 := hw1.symm; subst hw2; clear hw1)
    go_loopg [19] f.length (fun kq v19 w' => ∃ i : Int, v19 = .int .i64 i ∧ Aside0 (0 ≤ i ∧ (kq : Int) + i = f.length) ∧ Aside0 (SetL w' w.heap.size (f.take i.toNat).flatten) ∧ Aside0 (Below w.heap.size w w'))
    case atStart => exact ⟨0, rfl, ⟨by omega⟩, ⟨setL_made w⟩, ⟨(Below.refl _ _).alloc (Nat.le_refl _) _⟩⟩
    case round =>
      obtain ⟨i, rfl, HI, HS, HB⟩ := hrel
      have hI := HI.out
      by_cases hlt : i < (f.length : Int)
      · have hw1 : wrap64 (i + 1) = i + 1 := by unfold wrap64; omega
        obtain ⟨k1, rfl⟩ : ∃ k1, gk = k1 + 1 := ⟨gk - 1, by omega⟩
        obtain ⟨ad, cs, rfl, -, hk, hcell⟩ := ReadsRow.get_ HR.out [] i (by omega) hlt
        obtain ⟨Ax, cx, rfl, hcx, hCx⟩ := hk
        have hx := hcell 0 _ rfl
        rw [show i.toNat * (Kd.slice 3 (Kd.int .i64)).sz + 0 = i.toNat from by show i.toNat * 1 + 0 = i.toNat; omega] at hx
        obtain ⟨x, hxx⟩ : ∃ x, f.getD i.toNat [] = x := ⟨_, rfl⟩
        rw [hxx] at hx hCx hcx
        replace hx := (HB.out.cell (World.block_lt_of_cell? w _ hx)).trans hx
        have hib : 0 ≤ i ∧ i < (f.length : Int) := ⟨by omega, hlt⟩
        have hxe : f[i.toNat]'(by omega) = x := by
          rw [← hxx, List.getD_eq_getElem?_getD, List.getElem?_eq_getElem (show i.toNat < f.length by omega)]; rfl
        have hxm : x ∈ f := by rw [← hxe]; exact List.getElem_mem _
        have hwx : Aside0 (∀ v ∈ x, -65536 ≤ v ∧ v ≤ 65536) := ⟨HV.out x hxm⟩
        have hnx : Aside0 ((f.take (i + 1).toNat).flatten = (f.take i.toNat).flatten ++ x) := ⟨by
          rw [show (i + 1).toNat = i.toNat + 1 by omega, List.take_add_one, List.getElem?_eq_getElem (show i.toNat < f.length by omega), hxe, List.flatten_append]
          simp⟩
        have hCxA := Aside0.mk hCx
        have hxl := hCx.2.1
        clear hxe hxm hxx hCx hcell
        go_wp2
        have HBr := Aside0.mk (Below.refl wr.heap.size wr)
        rename World => wz
        go_loopg [25] x.length (fun kq v25 w' => ∃ j : Int, v25 = .int .i64 j ∧ Aside0 (0 ≤ j ∧ (kq : Int) + j = x.length) ∧ Aside0 (SetL w' w.heap.size ((f.take i.toNat).flatten ++ x.take j.toNat)) ∧ Aside0 (Below w.heap.size w w'))
        case atStart => exact ⟨0, rfl, ⟨by omega⟩, ⟨by simpa using HS.out⟩, HB⟩
        case round =>
          obtain ⟨j, rfl, HJ, HX, HBj⟩ := hrel
          have HCj := Aside0.mk (Kd.C_below hCxA.out HBj.out)
          have hJ := HJ.out
          by_cases hjl : j < (x.length : Int)
          · have hw2 : wrap64 (j + 1) = j + 1 := by unfold wrap64; omega
            obtain ⟨k2, rfl⟩ : ∃ k2, gk = k2 + 1 := ⟨gk - 1, by omega⟩
            obtain ⟨ay, ey, hy⟩ := Kd.at_int HCj.out j (by omega) hjl
            subst ey
            have hjb : 0 ≤ j ∧ j < (x.length : Int) := ⟨by omega, hjl⟩
            obtain ⟨y, hyy⟩ : ∃ y, rd x j = y := ⟨_, rfl⟩
            rw [hyy] at hy
            have hye : x[j.toNat]'(by omega) = y := by
              rw [← hyy]; unfold rd
              rw [List.getD_eq_getElem?_getD, List.getElem?_eq_getElem (show j.toNat < x.length by omega)]; rfl
            have hym : y ∈ x := by rw [← hye]; exact List.getElem_mem _
            have hyw : -65536 ≤ y ∧ y ≤ 65536 := hwx.out y hym
            have hnL : Aside0 ((f.take i.toNat).flatten ++ x.take (j + 1).toNat = ((f.take i.toNat).flatten ++ x.take j.toNat) ++ [y]) := ⟨by
              rw [show (j + 1).toNat = j.toNat + 1 by omega, List.take_add_one, List.getElem?_eq_getElem (show j.toNat < x.length by omega), hye, List.append_assoc]; rfl⟩
            clear hye hym hyy
            go_wp2_with (at_mapUpdate; refine setL_update _ _ _ _ rfl rfl w.heap.size _ HX.out y hyw rfl rfl rfl ?_; intro w1 hS1 hG1)
            go_roundg k2
            case measure => omega
            case rel => exact ⟨j + 1, rfl, ⟨by omega⟩, ⟨by rw [hnL.out]; exact hS1⟩, ⟨HBj.out.grown hG1 HBj.out.size (fun b hb => by cases hb; exact Nat.le_refl _)⟩⟩
          · go_wp2
            go_roundg k1
            case measure => omega
            case rel => exact ⟨i + 1, rfl, ⟨by omega⟩, ⟨by
              have := HX.out
              rw [List.take_of_length_le (show x.length ≤ j.toNat by omega)] at this
              rw [hnx.out]; exact this⟩, HBj⟩
      · have HSf : Aside0 (SetL wr w.heap.size f.flatten) := ⟨by
          have := HS.out
          rwa [List.take_of_length_le (show f.length ≤ i.toNat by omega)] at this⟩
        go_wp2
        have HBw := HB
        rename World => wq
        go_loopg [10, 11] n.toNat (fun kq v10 v11 w' => ∃ k : Int, v11 = .int .i64 k ∧ Aside0 (1 ≤ k ∧ (kq : Int) + k = n + 1) ∧ Aside0 (Kd.R (Kd.int .i64) 3 w' wq.heap.size (fun _ => True) v10 (pureTo f (k - 1).toNat)) ∧ Aside0 (Below wq.heap.size wq w'))
        case atStart => exact ⟨1, rfl, ⟨by omega⟩, ⟨Kd.R_nil _ _ _ _ _⟩, ⟨Below.refl _ _⟩⟩
        case round =>
          obtain ⟨k, rfl, HK, HO, HBq⟩ := hrel
          have hK := HK.out
          by_cases hkn : k ≤ n
          · have hw1 : wrap64 (k + 1) = k + 1 := by unfold wrap64; omega
            have hw2 : wrap64 (-k) = -k := by unfold wrap64; omega
            obtain ⟨k1, rfl⟩ : ∃ k1, gk = k1 + 1 := ⟨gk - 1, by omega⟩
            have hS := HSf.out.below HBq.out
            have hl1 := hS.look k (WalkArith.wf_i64 (by omega))
            have hl2 := hS.look (-k) (WalkArith.wf_i64 (by omega))
            obtain ⟨p, hp⟩ : ∃ p, decide (k ∈ f.flatten) = p := ⟨_, rfl⟩
            obtain ⟨m, hm⟩ : ∃ m, decide (-k ∈ f.flatten) = m := ⟨_, rfl⟩
            rw [hp] at hl1
            rw [hm] at hl2
            have hst : pureTo f (k + 1 - 1).toNat = pureTo f (k - 1).toNat ++ (if p = m then [] else if p = true then [k] else [-k]) := by
              rw [show (k + 1 - 1).toNat = (k - 1).toNat + 1 by omega, pureTo]
              rw [show (((k - 1).toNat : Nat) : Int) + 1 = k by omega]
              unfold occ
              rw [hp, hm]
            have hstA := Aside0.mk hst
            have hpl : (pureTo f (k - 1).toNat).length ≤ 65536 := by
              have := pureTo_length f (k - 1).toNat
              omega
            clear hst hp hm hS
            cases p <;> cases m
            · go_wp2
              go_roundg k1
              case measure => omega
              case rel => exact ⟨k + 1, rfl, ⟨by omega⟩, ⟨by have h := hstA.out; simp at h; rw [show (k + 1 - 1).toNat = k.toNat by omega, h, show k.toNat - 1 = (k - 1).toNat by omega]; exact HO.out⟩, HBq⟩
            · go_wp2_with ((with_reducible refine gate_dst (N := 57) rfl ?_); (refine Kd.R_append_row (Value.int .i64) 0 (h1 := fun _ => rfl) (w0 := wq) wq.heap.size rfl (.tmp 53) (.tmp 56) 22 3 (.int .i64 0) 8 rfl Try.underlying22 infoClone3 rfl (by decide) u10 (pureTo f (k - 1).toNat) [-k] (some ⟨wr.heap.size, 0, none⟩) 1 1 (fun _ => True) rfl rfl (fun _ _ => trivial) (Kd.R_alloc HO.out _) ?hC57 (HBq.out.alloc HBq.out.size _) (Nat.le_trans HBq.out.size (by show wr.heap.size ≤ (wr.heap.push _).size; rw [Array.size_push]; omega)) (by omega) ?_); (case hC57 => exact C_one (by rw [World.cell?_alloc_mark]; rfl)); intro v5 w5 hR5 hB5 _ _)
              go_roundg k1
              case measure => omega
              case rel => exact ⟨k + 1, rfl, ⟨by omega⟩, ⟨by have h := hstA.out; simp at h; rw [show (k + 1 - 1).toNat = k.toNat by omega, h, show k.toNat - 1 = (k - 1).toNat by omega]; exact hR5⟩, ⟨hB5⟩⟩
            · go_wp2_with ((with_reducible refine gate_dst (N := 52) rfl ?_); (refine Kd.R_append_row (Value.int .i64) 0 (h1 := fun _ => rfl) (w0 := wq) wq.heap.size rfl (.tmp 49) (.tmp 51) 22 3 (.int .i64 0) 8 rfl Try.underlying22 infoClone3 rfl (by decide) u10 (pureTo f (k - 1).toNat) [k] (some ⟨wr.heap.size, 0, none⟩) 1 1 (fun _ => True) rfl rfl (fun _ _ => trivial) (Kd.R_alloc HO.out _) ?hC52 (HBq.out.alloc HBq.out.size _) (Nat.le_trans HBq.out.size (by show wr.heap.size ≤ (wr.heap.push _).size; rw [Array.size_push]; omega)) (by omega) ?_); (case hC52 => exact C_one (by rw [World.cell?_alloc_mark]; rfl)); intro v5 w5 hR5 hB5 _ _)
              go_roundg k1
              case measure => omega
              case rel => exact ⟨k + 1, rfl, ⟨by omega⟩, ⟨by have h := hstA.out; simp at h; rw [show (k + 1 - 1).toNat = k.toNat by omega, h, show k.toNat - 1 = (k - 1).toNat by omega]; exact hR5⟩, ⟨hB5⟩⟩
            · go_wp2
              go_roundg k1
              case measure => omega
              case rel => exact ⟨k + 1, rfl, ⟨by omega⟩, ⟨by have h := hstA.out; simp at h; rw [show (k + 1 - 1).toNat = k.toNat by omega, h, show k.toNat - 1 = (k - 1).toNat by omega]; exact HO.out⟩, HBq⟩
          · have hkd : decide (k ≤ n) = false := decide_eq_false hkn
            have hkt : (k - 1).toNat = n.toNat := by omega
            have HOf : Aside0 (Kd.R (Kd.int .i64) 3 wr wq.heap.size (fun _ => True) u10 (pureTo f n.toNat)) := ⟨by rw [← hkt]; exact HO.out⟩
            clear hkt
            go_wp2
            go_ret
            exact ⟨_, rfl, by rw [hE.out]; exact Kd.R_lower HOf.out HBw.out.size, HBw.out.trans (HBq.out.mono HBw.out.size)⟩
def clause_Pure.f (a0 : Int) (l1 : List (List Int)) : Option (List Int) := if (l1.all fun c => c.all fun v => (Lit.int .i64 v).wf) = true then some (pureF a0 l1) else none
theorem clause_Pure.calls (a0 : Int) (A1 : Option Addr) (c1 : Nat) (l1 : List (List Int)) (r : List Int) (w : World) (hr1 : Kd.C (Kd.slice 3 (Kd.int .i64)) w A1 l1.length l1) (hc1 : l1.length ≤ c1) (h : clause_Pure.f a0 l1 = some r) :
    Calls Try.prog 18 #[.int .i64 a0, .slice A1 l1.length c1] w fun e w' => ∃ v0_ : Value, e = .returned v0_ ∧ Kd.R (Kd.int .i64) 3 w' w.heap.size (fun _ => True) v0_ r ∧ Below w.heap.size w w' := by
  unfold clause_Pure.f at h
  by_cases hl : (l1.all fun c => c.all fun v => (Lit.int .i64 v).wf) = true
  · rw [if_pos hl] at h
    obtain rfl := Option.some.inj h
    exact pure18 w a0 A1 c1 l1 hr1 hc1 (fun c hc v hv => List.all_eq_true.1 (List.all_eq_true.1 hl c hc) v hv)
  · rw [if_neg hl] at h; cases h
end Go.Proofs.Ytlfghalebkgclaa.G
