/- bytes.Clone, off the shelf. -/
import Derived.Test.YtlnogacjebbepaaDoorShelf
import Derived.Test.YtlnogacjebbepaaDoorPx0
namespace Go.Proofs.YtlnogacjebbepaaDoor.G
set_option linter.unusedVariables false
open Go.RowKit Go.Proofs.YtlnogacjebbepaaDoorW.PrintWords Go.Proofs.YtlnogacjebbepaaDoorW.PrintLast Go.Proofs.YtlnogacjebbepaaDoorW.PrintMore
def bytes_Clone.f (l : List Int) : Option (List Int) := if l.length ≤ 140737488355328 then some l else none
theorem bytes_Clone.calls (A0 : Option Addr) (c0 : Nat) (l0 : List Int) (r : List Int) (w : World) (hr0 : Kd.C (Kd.int .u8) w A0 l0.length l0) (hc0 : l0.length ≤ c0) (h : bytes_Clone.f l0 = some r) :
    Calls Tryd.prog 31 #[.slice A0 l0.length c0] w fun e w' => ∃ v0_ : Value, e = .returned (v0_) ∧ Kd.R (Kd.int .u8) 5 w' w.heap.size (fun _ => True) v0_ r ∧ Below w.heap.size w w' := by
  unfold bytes_Clone.f at h
  by_cases c1 : l0.length ≤ 140737488355328
  · rw [if_pos c1] at h
    obtain rfl : l0 = r := Option.some.inj h
    have hrd := Kd.reads_of_C (enc := Value.int .u8) (d := (0 : Int)) (h1 := fun _ => rfl) hr0
    cases A0 with
    | none =>
      have h0 : l0 = [] := by
        rcases Nat.eq_zero_or_pos l0.length with h0 | h0
        · exact List.eq_nil_of_length_eq_zero h0
        · obtain ⟨ad, e, _⟩ := hrd.2.2 h0; cases e
      subst h0
      refine (Tryd.bytes_Clone_nil 0 c0 w).mono ?_
      rintro e w' ⟨rfl, rfl⟩
      exact ⟨_, rfl, Kd.R_nil _ _ _ _ _, Below.refl _ _⟩
    | some a =>
      refine (Tryd.bytes_Clone_at a l0.length c0 l0 w rfl c1 (fun i hi => ?_)).mono ?_
      · obtain ⟨ad, e, hc⟩ := hrd.2.2 (by omega)
        cases e
        exact hc i hi
      · rintro e w' ⟨v, rfl, ho, _, hB⟩
        exact ⟨v, rfl, Kd.R_of_own (enc := Value.int .u8) (h1 := fun _ => rfl) ho (fun _ _ => trivial), hB⟩
  · rw [if_neg c1] at h; cases h
end Go.Proofs.YtlnogacjebbepaaDoor.G
