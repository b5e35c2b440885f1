-- Laid by a program of this session (the kit's print, changed): Lean checks it.
import Derived.Test.YtmlnoapfhimgoaaRows
import Derived.Test.YtmlnoapfhimgoaaPx10
import Derived.Test.YtmlnoapfhimgoaaPureClassHas
import Derived.Test.YtmlnoapfhimgoaaOpen
import Derived.WalkKit
import Derived.ProofKit
import Derived.OpenShut
import Derived.ShutString
import Derived.ChangeOld
import Derived.Below
import Derived.SizedLaws
namespace Go.Proofs.Ytmlnoapfhimgoaa.classHas
open Go.ChangeShapes Go.WideShapes Go.ChangeAt Go.RowKit Go.Proofs.Ytmlnoapfhimgoaa.Open Go.Proofs.Ytmlnoapfhimgoaa.P Go.Proofs.YtmlnoapfhimgoaaW.PrintWords
open Go.ChangeMaps (open_string shut_string)
set_option linter.unusedVariables false
theorem own : ownKnob Try.prog.godebug = none := by kernel_rfl
theorem laidOut : laidOutB Try.prog = true := by kernel_rfl
theorem opens_38 : Opens Try.prog 38 k38 (fun x => (x.f0.size ≤ 140737488351232 ∧ (True ∧ (Lit.int .i64 x.f2).wf = true))) :=
  Opens.iso (fun x : S38 => (x.f0, x.f1, x.f2)) (fun y => ⟨y.1, y.2.1, y.2.2⟩) (fun _ => rfl) (Opens.struct Try.underlying38 (by kernel_rfl) (OpensF.cons rfl (Opens.string Try.underlying9 (by kernel_rfl)) (OpensF.cons rfl (Opens.bool Try.underlying4 (by kernel_rfl)) (OpensF.one rfl (Opens.int Try.underlying3 (by kernel_rfl))))))
theorem opens_25 : Opens Try.prog 25 k25 (fun x => ((x.f0.length * 32 ≤ 140737488351232 ∧ x.f0.length ≤ 9223372036854775807 ∧ ∀ y7_ ∈ x.f0, (y7_.f0.size ≤ 140737488351232 ∧ (True ∧ (Lit.int .i64 y7_.f2).wf = true))) ∧ ((x.f1.length * 8 ≤ 140737488351232 ∧ x.f1.length ≤ 9223372036854775807 ∧ ∀ y8_ ∈ x.f1, (Lit.int .i64 y8_).wf = true) ∧ ((Lit.int .i64 x.f2).wf = true ∧ ((Lit.int .i64 x.f3).wf = true ∧ (Lit.int .i64 x.f4).wf = true))))) :=
  Opens.iso (fun x : S25 => (x.f0, x.f1, x.f2, x.f3, x.f4)) (fun y => ⟨y.1, y.2.1, y.2.2.1, y.2.2.2.1, y.2.2.2.2⟩) (fun _ => rfl) (Opens.struct Try.underlying25 (by kernel_rfl) (OpensF.cons rfl (Opens.slice (B := 32) Try.underlying22 (by kernel_rfl) (by kernel_rfl) opens_38) (OpensF.cons rfl (Opens.slice (B := 8) Try.underlying23 (by kernel_rfl) (by kernel_rfl) (Opens.int Try.underlying3 (by kernel_rfl))) (OpensF.cons rfl (Opens.int Try.underlying3 (by kernel_rfl)) (OpensF.cons rfl (Opens.int Try.underlying3 (by kernel_rfl)) (OpensF.one rfl (Opens.int Try.underlying3 (by kernel_rfl))))))))
theorem opens_31 : Opens Try.prog 31 k31 (fun x => ((x.f0.length * 24 ≤ 140737488351232 ∧ x.f0.length ≤ 9223372036854775807 ∧ ∀ y9_ ∈ x.f0, (y9_.length * 1 ≤ 140737488351232 ∧ y9_.length ≤ 9223372036854775807 ∧ ∀ y10_ ∈ y9_, (Lit.int .u8 y10_).wf = true)) ∧ ((x.f1.length * 24 ≤ 140737488351232 ∧ x.f1.length ≤ 9223372036854775807 ∧ ∀ y11_ ∈ x.f1, (y11_.length * 1 ≤ 140737488351232 ∧ y11_.length ≤ 9223372036854775807 ∧ ∀ y12_ ∈ y11_, (Lit.int .u8 y12_).wf = true)) ∧ (x.f2.length * 1 ≤ 140737488351232 ∧ x.f2.length ≤ 9223372036854775807 ∧ ∀ y13_ ∈ x.f2, True)))) :=
  Opens.iso (fun x : S31 => (x.f0, x.f1, x.f2)) (fun y => ⟨y.1, y.2.1, y.2.2⟩) (fun _ => rfl) (Opens.struct Try.underlying31 (by kernel_rfl) (OpensF.cons rfl (Opens.slice (B := 24) Try.underlying28 (by kernel_rfl) (by kernel_rfl) (Opens.slice (B := 1) Try.underlying42 (by kernel_rfl) (by kernel_rfl) (Opens.int Try.underlying5 (by kernel_rfl)))) (OpensF.cons rfl (Opens.slice (B := 24) Try.underlying28 (by kernel_rfl) (by kernel_rfl) (Opens.slice (B := 1) Try.underlying42 (by kernel_rfl) (by kernel_rfl) (Opens.int Try.underlying5 (by kernel_rfl)))) (OpensF.one rfl (Opens.slice (B := 1) Try.underlying29 (by kernel_rfl) (by kernel_rfl) (Opens.bool Try.underlying4 (by kernel_rfl)))))))
set_option maxRecDepth 100000 in
theorem lifted (os : Os) (started : os.Started) (H : Type) (enc : TypeId × Value → H) :
    ReturnsInHanded {} Try.checked os 4 .any (Rows.classHasSpec.pre6 enc Try.prog Try.f4 Rows.classHasRow.domain false) (Rows.classHasSpec.post enc Try.prog Try.f4 false true false false) := by
  refine returnsInHanded_of_change_sized (C := Try.checked) own started (by kernel_rfl) Try.func4
    (ChangeSpec.witness6 (enc := enc) (C := Try.checked) false ⟨#[], #[.agg #[.slice none 0 0, .slice none 0 0, .int .i64 0, .int .i64 0, .int .i64 0], .agg #[.slice none 0 0, .slice none 0 0, .slice none 0 0]], []⟩ 8 (by kernel_rfl) (by kernel_rfl) (by kernel_rfl) (by kernel_rfl)) ?_
  intro W base args ds gs before hval0 hW hcnd hsz0 _
  have hsz : (DataW.weightsEach Try.prog (Try.f4.params.toList ++ Rows.classHasSpec.plain.varTypes Try.prog) (ds ++ gs)).all (· ≤ reachBytes) = true := hsz0
  have hval : ∀ (j : Nat) t v, Try.f4.params[j]? = some t → args[j]? = some v → Value.okWide Try.prog W .any base t v := hval0
  have hW' := hW
  obtain ⟨p, q, hA0, hV, rfl, hfz, hnd⟩ := hW
  have hA : DataW.TrodAll enc Try.prog W 0 (fun _ => true) true Try.f4.params.toList args.toList ds p := hA0
  rw [Try.params4] at hA hval hsz
  obtain ⟨v0, vs0, d0, ds0, p0, q0, hargs, rfl, rfl, h0, r0⟩ := trodAll_cons hA
  obtain ⟨v1, vs1, d1, ds1, p1, q1, rfl, rfl, rfl, h1, r1⟩ := trodAll_cons r0
  obtain ⟨rfl, rfl, rfl⟩ := trodAll_nil r1
  obtain rfl : args = #[v0, v1] := by cases args; simp_all
  obtain ⟨rfl, rfl⟩ := trodVars_none hV
  have k0 := h0
  have lt0 : ∀ x ∈ p0, x.block < W.heap.size := by obtain ⟨m, hm⟩ := k0; exact DataW.trod_lt m _ _ _ hm
  obtain ⟨x0, cs0, rfl, hK0, hf0⟩ := Opens.argStruct opens_25 Try.underlying25 (hval 0 25 v0 rfl rfl) hsz (j := 0) rfl rfl h0
  obtain ⟨A0_0, c0_0, A0_1, c0_1, rfl, hc0_0, hr0_0, hc0_1, hr0_1⟩ := k25_open hK0
  obtain ⟨l0_0, l0_1, a0_2, a0_3, a0_4⟩ := x0
  obtain ⟨hf0_0, hf0_1, hf0_2, hf0_3, hf0_4⟩ := hf0
  have k1 := h1
  have lt1 : ∀ x ∈ p1, x.block < W.heap.size := by obtain ⟨m, hm⟩ := k1; exact DataW.trod_lt m _ _ _ hm
  obtain ⟨x1, cs1, rfl, hK1, hf1⟩ := Opens.argStruct opens_31 Try.underlying31 (hval 1 31 v1 rfl rfl) hsz (j := 1) rfl rfl h1
  obtain ⟨A1_0, c1_0, A1_1, c1_1, A1_2, c1_2, rfl, hc1_0, hr1_0, hc1_1, hr1_1, hc1_2, hr1_2⟩ := k31_open hK1
  obtain ⟨l1_0, l1_1, l1_2⟩ := x1
  obtain ⟨hf1_0, hf1_1, hf1_2⟩ := hf1
  clear hA0 hval0 hsz0 hsz
  obtain ⟨k, h⟩ := Pure.ClassHas l0_0 l0_1 a0_2 a0_3 a0_4 l1_0 l1_1 l1_2 hf0_0 hf0_1 hf0_2 hf0_3 hf0_4 hf1_0 hf1_1 hf1_2
  refine (P.crossroadslaw17_ClassHas.calls k A0_0 c0_0 l0_0 A0_1 c0_1 l0_1 a0_2 a0_3 a0_4 A1_0 c1_0 l1_0 A1_1 c1_1 l1_1 A1_2 c1_2 l1_2 true W hr0_0 hc0_0 hr0_1 hc0_1 hr1_0 hc1_0 hr1_1 hc1_1 hr1_2 hc1_2 h).mono fun e W' ⟨he, bel0⟩ => ?_
  have bel : Below W.heap.size W W' := bel0
  subst he
  exact ⟨_, rfl, _, _, _, [], _, [], hW', trodAll_mk1 (shut_bool Try.underlying4 _), (trodAll_cons_mk (Below.trod laidOut (by kernel_rfl) (of_decide_eq_true (by kernel_rfl)) k0 bel lt0) (trodAll_cons_mk (Below.trod laidOut (by kernel_rfl) (of_decide_eq_true (by kernel_rfl)) k1 bel lt1) trodAll_mk0)), rfl, bel.frame _, fun h => by cases h⟩
theorem over : Rows.classHasRow.holds Try.pinned (OpenSpec.ofChange Rows.classHasSpec) :=
  OpenClaim.holds_of_wide 4 Try.f4 rfl rfl rfl rfl rfl rfl rfl ⟨rfl, rfl, rfl, rfl, rfl⟩ rfl rfl rfl rfl rfl (by kernel_rfl) Try.func4 (by kernel_rfl)
    (of_decide_eq_true (by kernel_rfl)) (by unfold Func.isWrapper; first | (rw [if_pos (by decide +kernel)]; kernel_rfl) | (rw [if_neg (by decide +kernel)]; exact ⟨rfl, rfl⟩))
    (fun os started H enc _ => lifted os started H enc)
theorem proved : Rows.ClassHasSaid := over
#print axioms proved
end Go.Proofs.Ytmlnoapfhimgoaa.classHas
namespace Go.Proofs.Ytmlnoapfhimgoaa
/-- The row, under a short name, for the claim. -/
theorem classHas_holds : Rows.ClassHasSaid := classHas.proved
end Go.Proofs.Ytmlnoapfhimgoaa
