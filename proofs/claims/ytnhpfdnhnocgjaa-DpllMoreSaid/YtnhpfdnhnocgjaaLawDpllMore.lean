-- Laid by a program of this session: Lean checks it.
import Derived.Test.YtnhpfdnhnocgjaaRows
import Derived.Test.YtnhpfdnhnocgjaaHpX
import Derived.Test.YtnhpfdnhnocgjaaOpen
import Derived.WalkKit
import Derived.ProofKit
import Derived.OpenShut
import Derived.ShutString
import Derived.ChangeOld
import Derived.Below
import Derived.SizedLaws
namespace Go.Proofs.Ytnhpfdnhnocgjaa.dpllMore
open Go.ChangeShapes Go.WideShapes Go.ChangeAt Go.RowKit Go.Proofs.Ytnhpfdnhnocgjaa.Open Go.Proofs.Ytnhpfdnhnocgjaa.P Go.Proofs.YtnhpfdnhnocgjaaW.PrintWords Go.Proofs.Ytnhpfdnhnocgjaa.S Go.Proofs.Ytnhpfdnhnocgjaa.Lem
open Go.ChangeMaps (open_string shut_string)
set_option linter.unusedVariables false
theorem own : ownKnob Try.prog.godebug = none := by kernel_rfl
theorem laidOut : laidOutB Try.prog = true := by kernel_rfl
set_option maxRecDepth 100000 in
theorem lifted (os : Os) (started : os.Started) (H : Type) (enc : TypeId × Value → H) :
    ReturnsInHanded {} Try.checked os 7 .any (Rows.dpllMoreSpec.pre6 enc Try.prog Try.f7 Rows.dpllMoreRow.domain false) (Rows.dpllMoreSpec.post enc Try.prog Try.f7 false true false false) := by
  refine returnsInHanded_of_change_sized (C := Try.checked) own started (by kernel_rfl) Try.func7
    (ChangeSpec.witness6 (enc := enc) (C := Try.checked) false ⟨#[], #[.int .u8 0, .slice none 0 0, .slice none 0 0], []⟩ 8 (by kernel_rfl) (by kernel_rfl) (by kernel_rfl) (by kernel_rfl)) ?_
  intro W base args ds gs before hval0 hW hcnd hsz0 _
  have hsz : (DataW.weightsEach Try.prog (Try.f7.params.toList ++ Rows.dpllMoreSpec.plain.varTypes Try.prog) (ds ++ gs)).all (· ≤ reachBytes) = true := hsz0
  have hval : ∀ (j : Nat) t v, Try.f7.params[j]? = some t → args[j]? = some v → Value.okWide Try.prog W .any base t v := hval0
  have hW' := hW
  obtain ⟨p, q, hA0, hV, rfl, hfz, hnd⟩ := hW
  have hA : DataW.TrodAll enc Try.prog W 0 (fun _ => true) true Try.f7.params.toList args.toList ds p := hA0
  rw [Try.params7] at hA hval hsz
  obtain ⟨v0, vs0, d0, ds0, p0, q0, hargs, rfl, rfl, h0, r0⟩ := trodAll_cons hA
  obtain ⟨v1, vs1, d1, ds1, p1, q1, rfl, rfl, rfl, h1, r1⟩ := trodAll_cons r0
  obtain ⟨v2, vs2, d2, ds2, p2, q2, rfl, rfl, rfl, h2, r2⟩ := trodAll_cons r1
  obtain ⟨rfl, rfl, rfl⟩ := trodAll_nil r2
  obtain rfl : args = #[v0, v1, v2] := by cases args; simp_all
  obtain ⟨rfl, rfl⟩ := trodVars_none hV
  obtain ⟨a0, rfl, rfl, rfl, hf0⟩ := open_int Try.underlying5 (hval 0 5 v0 rfl rfl) h0
  have k1 := h1
  have lt1 : ∀ x ∈ p1, x.block < W.heap.size := by obtain ⟨m, hm⟩ := k1; exact DataW.trod_lt m _ _ _ hm
  obtain ⟨A1, c1, l1, rfl, hc1, hr1, hf1⟩ := Opens.argSlice (Opens.slice (B := 24) Try.underlying22 (by kernel_rfl) (by kernel_rfl) (Opens.slice (B := 8) Try.underlying37 (by kernel_rfl) (by kernel_rfl) (Opens.int Try.underlying3 (by kernel_rfl)))) Try.underlying22 (hval 1 22 v1 rfl rfl) hsz (j := 1) rfl rfl h1
  have k2 := h2
  have lt2 : ∀ x ∈ p2, x.block < W.heap.size := by obtain ⟨m, hm⟩ := k2; exact DataW.trod_lt m _ _ _ hm
  obtain ⟨A2, c2, l2, rfl, hc2, hr2, hf2⟩ := Opens.argSlice (Opens.slice (B := 8) Try.underlying37 (by kernel_rfl) (by kernel_rfl) (Opens.int Try.underlying3 (by kernel_rfl))) Try.underlying37 (hval 2 37 v2 rfl rfl) hsz (j := 2) rfl rfl h2
  clear hA0 hval0 hsz0 hsz
  refine (more7 (In.of hr1 hc1 hf1) a0 (wfu8 hf0).1 (wfu8 hf0).2 hr2 hc2 (fun v hv => wf64 (hf2.2.2 v hv)) (by have := hf2.1; omega) (by have := hf1.1; omega)).mono fun e W' ⟨he, bel0⟩ => ?_
  have bel : Below W.heap.size W W' := bel0
  subst he
  exact ⟨_, rfl, _, _, _, [], _, [], hW', trodAll_mk1 (shut_bool Try.underlying4 _), (trodAll_cons_mk (shut_int Try.underlying5 hf0) (trodAll_cons_mk (Below.trod laidOut (by kernel_rfl) (of_decide_eq_true (by kernel_rfl)) k1 bel lt1) (trodAll_cons_mk (Below.trod laidOut (by kernel_rfl) (of_decide_eq_true (by kernel_rfl)) k2 bel lt2) trodAll_mk0))), rfl, bel.frame _, fun h => by cases h⟩
theorem over : Rows.dpllMoreRow.holds Try.pinned (OpenSpec.ofChange Rows.dpllMoreSpec) :=
  OpenClaim.holds_of_wide 7 Try.f7 rfl rfl rfl rfl rfl rfl rfl ⟨rfl, rfl, rfl, rfl, rfl⟩ rfl rfl rfl rfl rfl (by kernel_rfl) Try.func7 (by kernel_rfl)
    (of_decide_eq_true (by kernel_rfl)) (by unfold Func.isWrapper; first | (rw [if_pos (by decide +kernel)]; kernel_rfl) | (rw [if_neg (by decide +kernel)]; exact ⟨rfl, rfl⟩))
    (fun os started H enc _ => lifted os started H enc)
theorem proved : Rows.DpllMoreSaid := over
#print axioms proved
end Go.Proofs.Ytnhpfdnhnocgjaa.dpllMore
namespace Go.Proofs.Ytnhpfdnhnocgjaa
/-- The row, under a short name, for the claim. -/
theorem dpllMore_holds : Rows.DpllMoreSaid := dpllMore.proved
end Go.Proofs.Ytnhpfdnhnocgjaa
