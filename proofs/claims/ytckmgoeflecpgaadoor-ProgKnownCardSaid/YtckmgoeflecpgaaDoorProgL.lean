/- What the functions of package prog compute, plainly. -/
import Derived.Test.YtckmgoeflecpgaaDoorPx2
import Derived.Test.YtckmgoeflecpgaaDoorGTake
namespace Go.Proofs.YtckmgoeflecpgaaDoor.L
set_option linter.unusedVariables false
open Go.RowKit Go.Proofs.YtckmgoeflecpgaaDoor.I Go.Proofs.YtckmgoeflecpgaaDoor.G Go.Proofs.YtckmgoeflecpgaaDoor.P Go.Proofs.YtckmgoeflecpgaaDoorW.PrintWords Go.Proofs.YtckmgoeflecpgaaDoorW.PrintLast Go.Proofs.YtckmgoeflecpgaaDoorW.PrintMore
def longV (names : List ByteArray) : Bool := names.any (fun s => decide (255 < s.size))
def opsV (L : List S41) : Bool := L.all (fun i => mayI i.f0 i.f1)
def mayV (L : List S41) (names : List ByteArray) : Int := if 96 < L.length ∨ 8 < names.length then 3 else if longV names = true then 10 else if opsV L = true then 0 else 5
theorem may_l1 (L : List S41) (hL : L.length ≤ 96) : ∀ (d : List S41) (i : Nat), L.drop i = d → i ≤ L.length → Ev (fun k => prog_may.l1 k L (L.length : Int) (i : Int)) (if opsV d = true then 0 else 5)
  | [], i, hd, hi => by
    have h1 : L.length ≤ i := List.drop_eq_nil_iff.1 hd
    refine Ev.step (f := fun _ => some 0) (fun k => ?_) (Ev.now _)
    rw [prog_may.l1, if_neg (by omega)]
  | x :: d, i, hd, hi => by
    have hlt : i < L.length := by
      rcases Nat.lt_or_ge i L.length with h | h
      · exact h
      · rw [List.drop_eq_nil_iff.2 h] at hd; cases hd
    rw [List.drop_eq_getElem_cons hlt] at hd
    injection hd with hx hd
    have hr : rd_T41 L (i : Int) = x := by
      unfold rd_T41
      rw [Int.toNat_natCast, List.getD_eq_getElem?_getD, List.getElem?_eq_getElem hlt]
      exact hx
    have hw : wrap64 ((i : Int) + 1) = ((i + 1 : Nat) : Int) := by unfold wrap64; omega
    have ih := may_l1 L hL d (i + 1) hd (by omega)
    cases hm : mayI x.f0 x.f1
    · refine Ev.step (f := fun _ => some 5) (fun k => ?_) ?_
      · rw [prog_may.l1, if_pos (by omega), if_pos (by omega), if_pos (by omega), hr]
        unfold inst_May.f
        rw [hm, Option.bind_some, if_neg (by decide)]
      · have : opsV (x :: d) = false := by unfold opsV; rw [List.all_cons, hm]; rfl
        rw [this]
        exact Ev.now _
    · refine Ev.step (f := fun k => prog_may.l1 k L (L.length : Int) ((i + 1 : Nat) : Int)) (fun k => ?_) ?_
      · rw [prog_may.l1, if_pos (by omega), if_pos (by omega), if_pos (by omega), hr]
        unfold inst_May.f
        rw [hm, Option.bind_some, if_pos rfl, hw]
      · have : opsV (x :: d) = opsV d := by unfold opsV; rw [List.all_cons, hm]; rfl
        rw [this]
        exact ih
theorem may_l0 (L : List S41) (N : List ByteArray) (hL : L.length ≤ 96) (hN : N.length ≤ 8) : ∀ (d : List ByteArray) (i : Nat), N.drop i = d → i ≤ N.length → Ev (fun k => prog_may.l0 k N (N.length : Int) (i : Int) L N) (if longV d = true then 10 else if opsV L = true then 0 else 5)
  | [], i, hd, hi => by
    have h1 : N.length ≤ i := List.drop_eq_nil_iff.1 hd
    refine Ev.step (f := fun k => prog_may.l1 k L (L.length : Int) 0) (fun k => ?_) ?_
    · rw [prog_may.l0, if_neg (by omega)]
    · exact may_l1 L hL L 0 rfl (Nat.zero_le _)
  | x :: d, i, hd, hi => by
    have hlt : i < N.length := by
      rcases Nat.lt_or_ge i N.length with h | h
      · exact h
      · rw [List.drop_eq_nil_iff.2 h] at hd; cases hd
    rw [List.drop_eq_getElem_cons hlt] at hd
    injection hd with hx hd
    have hr : rdOf ByteArray.empty N (i : Int) = x := by
      unfold rdOf
      rw [Int.toNat_natCast, List.getD_eq_getElem?_getD, List.getElem?_eq_getElem hlt]
      exact hx
    have hw : wrap64 ((i : Int) + 1) = ((i + 1 : Nat) : Int) := by unfold wrap64; omega
    have ih := may_l0 L N hL hN d (i + 1) hd (by omega)
    by_cases hm : 255 < x.size
    · refine Ev.step (f := fun _ => some 10) (fun k => ?_) ?_
      · rw [prog_may.l0, if_pos (by omega), if_pos (by omega), if_pos (by omega), hr, if_pos (by omega)]
      · have : longV (x :: d) = true := by unfold longV; rw [List.any_cons, decide_eq_true hm]; rfl
        rw [this]
        exact Ev.now _
    · refine Ev.step (f := fun k => prog_may.l0 k N (N.length : Int) ((i + 1 : Nat) : Int) L N) (fun k => ?_) ?_
      · rw [prog_may.l0, if_pos (by omega), if_pos (by omega), if_pos (by omega), hr, if_neg (by omega), hw]
      · have : longV (x :: d) = longV d := by unfold longV; rw [List.any_cons, decide_eq_false hm]; rfl
        rw [this]
        exact ih
theorem may_ev (L : List S41) (N : List ByteArray) : Ev (fun k => prog_may.f k L N) (mayV L N) := by
  unfold mayV
  by_cases h1 : 96 < L.length
  · rw [if_pos (.inl h1)]
    refine Ev.congr (f := fun k => prog_may.j0 k true L N) (fun k => by rw [prog_may.f, if_pos (by omega)]) ?_
    exact Ev.step (f := fun _ => some 3) (fun k => by rw [prog_may.j0, if_pos rfl]) (Ev.now _)
  · by_cases h2 : 8 < N.length
    · rw [if_pos (.inr h2)]
      refine Ev.congr (f := fun k => prog_may.j0 k true L N) (fun k => by rw [prog_may.f, if_neg (by omega), decide_eq_true (by omega)]) ?_
      exact Ev.step (f := fun _ => some 3) (fun k => by rw [prog_may.j0, if_pos rfl]) (Ev.now _)
    · rw [if_neg (by rintro (h | h) <;> omega)]
      refine Ev.congr (f := fun k => prog_may.j0 k false L N) (fun k => by rw [prog_may.f, if_neg (by omega), decide_eq_false (by omega)]) ?_
      refine Ev.step (f := fun k => prog_may.l0 k N (N.length : Int) 0 L N) (fun k => by rw [prog_may.j0, if_neg (by decide)]) ?_
      exact may_l0 L N (by omega) (by omega) N 0 rfl (Nat.zero_le _)
/-! ### Read -/
def namesS : Nat → St → List ByteArray → List ByteArray × St
  | 0, s, acc => (acc, s)
  | k + 1, s, acc => namesS k (takeS (oneS s).1.toNat (oneS s).2).2 (acc ++ [strOfNums (takeS (oneS s).1.toNat (oneS s).2).1])
def instOf (l : List Int) : S41 := ⟨l.getD 0 0, l.getD 1 0 * 256 + l.getD 2 0⟩
def instS : Nat → St → List S41 → List S41 × St
  | 0, s, acc => (acc, s)
  | k + 1, s, acc => instS k (takeS 3 s).2 (acc ++ [instOf (takeS 3 s).1])
/-- All is read. -/
def finV (L : List S41) (N : List ByteArray) (s : St) : List S41 × List ByteArray × Int :=
  if s.2 = true ∨ 0 < s.1.length then ([], [], 4) else if mayV L N ≠ 0 then ([], [], mayV L N) else (L, N, 0)
def tail2 (n : List ByteArray × St) : List S41 × List ByteArray × Int :=
  finV (instS (oneS n.2).1.toNat (oneS n.2).2 []).1 n.1 (instS (oneS n.2).1.toNat (oneS n.2).2 []).2
/-- Behind the two first bytes. -/
def bodyV (s : St) : List S41 × List ByteArray × Int := tail2 (namesS (oneS s).1.toNat (oneS s).2 [])
def headV (x y : Int) (s : St) : List S41 × List ByteArray × Int := if s.2 = true ∨ x ≠ 88 ∨ y ≠ 82 then ([], [], 4) else bodyV s
def readV (b : List Int) : List S41 × List ByteArray × Int := headV (oneS (b, false)).1 (oneS (oneS (b, false)).2).1 (oneS (oneS (b, false)).2).2
end Go.Proofs.YtckmgoeflecpgaaDoor.L
