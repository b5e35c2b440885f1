/- ClassFails, the plain part: for each of the 28 pairs of numbers, by reckoning. -/
import Derived.Test.YtmlnoapfhimgoaaPx3
import Derived.Test.YtmlnoapfhimgoaaAwake
namespace Go.Proofs.Ytmlnoapfhimgoaa.Pure
open Go.RowKit Go.Proofs.Ytmlnoapfhimgoaa.P Go.Proofs.YtmlnoapfhimgoaaW.PrintWords Go.Proofs.YtmlnoapfhimgoaaW.PrintLast Go.Proofs.YtmlnoapfhimgoaaW.PrintMore
def ckFails : Bool := (List.range 7).all fun a => (List.range (a + 1)).all fun b => decide (crossroadslaw17_ClassFails.l0 600 (a : Int) (b : Int) 0 0 (a : Int) (b : Int) 0 = some true)
theorem ckFails_ok : ckFails = true := by kernel_rfl
/-- inputs of a class of calls alone, in order. -/
theorem ClassFails : crossroadslaw17_ClassFails.Pure := by
  intro a0 a1 h0 h1
  have e0 : 0 ≤ a0 ∧ a0 ≤ 255 := by simp [Lit.wf, IntKind.min, IntKind.max, IntKind.bits, IntKind.signed] at h0; omega
  have e1 : 0 ≤ a1 ∧ a1 ≤ 255 := by simp [Lit.wf, IntKind.min, IntKind.max, IntKind.bits, IntKind.signed] at h1; omega
  have w0 : wrap64 a0 = a0 := by unfold wrap64; omega
  have w1 : wrap64 a1 = a1 := by unfold wrap64; omega
  have hx : Int.tmod (wrap64 a0) 7 = a0 % 7 := by rw [w0]; exact Int.tmod_eq_emod_of_nonneg e0.1
  obtain ⟨x, hxx⟩ : ∃ x, a0 % 7 = x := ⟨_, rfl⟩
  have hxb : 0 ≤ x ∧ x ≤ 6 := by omega
  have w2 : wrap64 (x + 1) = x + 1 := by unfold wrap64; omega
  have hy : Int.tmod (wrap64 a1) (x + 1) = a1 % (x + 1) := by rw [w1]; exact Int.tmod_eq_emod_of_nonneg e1.1
  obtain ⟨y, hyy⟩ : ∃ y, a1 % (x + 1) = y := ⟨_, rfl⟩
  have hyb : 0 ≤ y ∧ y ≤ x := by
    have h2 := Int.emod_nonneg a1 (show x + 1 ≠ 0 by omega)
    have h3 := Int.emod_lt_of_pos a1 (show 0 < x + 1 by omega)
    omega
  have h := List.all_eq_true.1 (List.all_eq_true.1 ckFails_ok x.toNat (List.mem_range.2 (by omega))) y.toNat (List.mem_range.2 (by omega))
  rw [show ((x.toNat : Nat) : Int) = x by omega, show ((y.toNat : Nat) : Int) = y by omega] at h
  have h4 := of_decide_eq_true h
  have aw := at_rounds crossroadslaw17_awake.mono (show 60 ≤ 600 by omega) awake_k
  refine ⟨600, ?_⟩
  unfold crossroadslaw17_ClassFails.f
  rw [hx, hxx, w2, hy, hyy, aw, Option.bind_some, if_pos rfl, if_neg (by omega)]
  exact h4
end Go.Proofs.Ytmlnoapfhimgoaa.Pure
