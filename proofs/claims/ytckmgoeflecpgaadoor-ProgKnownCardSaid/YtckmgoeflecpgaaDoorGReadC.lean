/- prog.Read as the printed texts call it. -/
import Derived.Test.YtckmgoeflecpgaaDoorGRead
namespace Go.Proofs.YtckmgoeflecpgaaDoor.G
set_option linter.unusedVariables false
open Go.RowKit Go.Proofs.YtckmgoeflecpgaaDoor.L Go.Proofs.YtckmgoeflecpgaaDoor.I Go.Proofs.YtckmgoeflecpgaaDoor.P Go.Proofs.YtckmgoeflecpgaaDoorW.PrintWords
def okD (l : List Int) : Bool := l.all (fun x => decide (0 ≤ x) && decide (x < 256))
theorem okD_ok {l : List Int} (h : okD l = true) : okB l := fun x hx => by
  have := List.all_eq_true.1 h x hx
  rw [Bool.and_eq_true] at this
  exact ⟨of_decide_eq_true this.1, of_decide_eq_true this.2⟩
theorem okD_of {l : List Int} (h : okB l) : okD l = true := List.all_eq_true.2 fun x hx => by
  rw [decide_eq_true (h x hx).1, decide_eq_true (h x hx).2]; rfl
def prog_Read.f (l0 : List Int) : Option (List S41 × List ByteArray × Int) := if okD l0 = true then some (readV l0) else none
theorem prog_Read.calls (A0 : Option Addr) (c0 : Nat) (l0 : List Int) (r1 : List S41) (r2 : List ByteArray) (r3 : Int) (w : World) (hr0 : Kd.C (Kd.int .u8) w A0 l0.length l0) (hc0 : l0.length ≤ c0) (h : prog_Read.f l0 = some (r1, r2, r3)) :
    Calls Tryd.prog 14 #[.slice A0 l0.length c0] w fun e w' => ∃ v0_ v1_ : Value, e = .returned (.tuple #[.agg #[v0_, v1_], .int .i64 r3]) ∧ Kd.R k41 41 w' w.heap.size (fun _ => True) v0_ r1 ∧ Kd.R Kd.string 9 w' w.heap.size (fun _ => True) v1_ r2 ∧ Below w.heap.size w w' := by
  unfold prog_Read.f at h
  by_cases hk : okD l0 = true
  · rw [if_pos hk] at h
    have h := Option.some.inj h
    have := read14 A0 l0.length c0 l0 w rfl hc0 hr0 (okD_ok hk)
    rw [h] at this
    exact this.mono fun e w' ⟨v0, v1, he, h0, h1, hb⟩ => ⟨v0, v1, he, h0, Kd.R_mono h1 (fun _ _ => trivial), hb⟩
  · rw [if_neg hk] at h; cases h
end Go.Proofs.YtckmgoeflecpgaaDoor.G
