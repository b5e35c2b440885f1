-- Laid by a program of this session (the kit's print, changed): Lean checks it.
import Derived.Test.YtmlnoapfhimgoaaRows
import Derived.Test.YtmlnoapfhimgoaaPx12
import Derived.Test.YtmlnoapfhimgoaaPureClassApart
import Derived.Test.YtmlnoapfhimgoaaOpen
import Derived.WalkKit
import Derived.ProofKit
import Derived.OpenShut
import Derived.ShutString
import Derived.ChangeOld
import Derived.Below
import Derived.SizedLaws
namespace Go.Proofs.Ytmlnoapfhimgoaa.classApart
open Go.ChangeShapes Go.WideShapes Go.ChangeAt Go.RowKit Go.Proofs.Ytmlnoapfhimgoaa.Open Go.Proofs.Ytmlnoapfhimgoaa.P Go.Proofs.YtmlnoapfhimgoaaW.PrintWords
open Go.ChangeMaps (open_string shut_string)
set_option linter.unusedVariables false
theorem own : ownKnob Try.prog.godebug = none := by kernel_rfl
theorem laidOut : laidOutB Try.prog = true := by kernel_rfl
theorem opens_38 : Opens Try.prog 38 k38 (fun x => (x.f0.size ≤ 140737488351232 ∧ (True ∧ (Lit.int .i64 x.f2).wf = true))) :=
  Opens.iso (fun x : S38 => (x.f0, x.f1, x.f2)) (fun y => ⟨y.1, y.2.1, y.2.2⟩) (fun _ => rfl) (Opens.struct Try.underlying38 (by kernel_rfl) (OpensF.cons rfl (Opens.string Try.underlying9 (by kernel_rfl)) (OpensF.cons rfl (Opens.bool Try.underlying4 (by kernel_rfl)) (OpensF.one rfl (Opens.int Try.underlying3 (by kernel_rfl))))))
theorem opens_25 : Opens Try.prog 25 k25 (fun x => ((x.f0.length * 32 ≤ 140737488351232 ∧ x.f0.length ≤ 9223372036854775807 ∧ ∀ y14_ ∈ x.f0, (y14_.f0.size ≤ 140737488351232 ∧ (True ∧ (Lit.int .i64 y14_.f2).wf = true))) ∧ ((x.f1.length * 8 ≤ 140737488351232 ∧ x.f1.length ≤ 9223372036854775807 ∧ ∀ y15_ ∈ x.f1, (Lit.int .i64 y15_).wf = true) ∧ ((Lit.int .i64 x.f2).wf = true ∧ ((Lit.int .i64 x.f3).wf = true ∧ (Lit.int .i64 x.f4).wf = true))))) :=
  Opens.iso (fun x : S25 => (x.f0, x.f1, x.f2, x.f3, x.f4)) (fun y => ⟨y.1, y.2.1, y.2.2.1, y.2.2.2.1, y.2.2.2.2⟩) (fun _ => rfl) (Opens.struct Try.underlying25 (by kernel_rfl) (OpensF.cons rfl (Opens.slice (B := 32) Try.underlying22 (by kernel_rfl) (by kernel_rfl) opens_38) (OpensF.cons rfl (Opens.slice (B := 8) Try.underlying23 (by kernel_rfl) (by kernel_rfl) (Opens.int Try.underlying3 (by kernel_rfl))) (OpensF.cons rfl (Opens.int Try.underlying3 (by kernel_rfl)) (OpensF.cons rfl (Opens.int Try.underlying3 (by kernel_rfl)) (OpensF.one rfl (Opens.int Try.underlying3 (by kernel_rfl))))))))
set_option maxRecDepth 100000 in
theorem lifted (os : Os) (started : os.Started) (H : Type) (enc : TypeId × Value → H) :
    ReturnsInHanded {} Try.checked os 6 .any (Rows.classApartSpec.pre6 enc Try.prog Try.f6 Rows.classApartRow.domain false) (Rows.classApartSpec.post enc Try.prog Try.f6 false true false false) := by
  refine returnsInHanded_of_change_sized (C := Try.checked) own started (by kernel_rfl) Try.func6
    (ChangeSpec.witness6 (enc := enc) (C := Try.checked) false ⟨#[], #[.agg #[.slice none 0 0, .slice none 0 0, .int .i64 0, .int .i64 0, .int .i64 0], .int .u16 0, .int .u16 0], []⟩ 8 (by kernel_rfl) (by kernel_rfl) (by kernel_rfl) (by kernel_rfl)) ?_
  intro W base args ds gs before hval0 hW hcnd hsz0 _
  have hsz : (DataW.weightsEach Try.prog (Try.f6.params.toList ++ Rows.classApartSpec.plain.varTypes Try.prog) (ds ++ gs)).all (· ≤ reachBytes) = true := hsz0
  have hval : ∀ (j : Nat) t v, Try.f6.params[j]? = some t → args[j]? = some v → Value.okWide Try.prog W .any base t v := hval0
  have hW' := hW
  obtain ⟨p, q, hA0, hV, rfl, hfz, hnd⟩ := hW
  have hA : DataW.TrodAll enc Try.prog W 0 (fun _ => true) true Try.f6.params.toList args.toList ds p := hA0
  rw [Try.params6] at hA hval hsz
  obtain ⟨v0, vs0, d0, ds0, p0, q0, hargs, rfl, rfl, h0, r0⟩ := trodAll_cons hA
  obtain ⟨v1, vs1, d1, ds1, p1, q1, rfl, rfl, rfl, h1, r1⟩ := trodAll_cons r0
  obtain ⟨v2, vs2, d2, ds2, p2, q2, rfl, rfl, rfl, h2, r2⟩ := trodAll_cons r1
  obtain ⟨rfl, rfl, rfl⟩ := trodAll_nil r2
  obtain rfl : args = #[v0, v1, v2] := by cases args; simp_all
  obtain ⟨rfl, rfl⟩ := trodVars_none hV
  have k0 := h0
  have lt0 : ∀ x ∈ p0, x.block < W.heap.size := by obtain ⟨m, hm⟩ := k0; exact DataW.trod_lt m _ _ _ hm
  obtain ⟨x0, cs0, rfl, hK0, hf0⟩ := Opens.argStruct opens_25 Try.underlying25 (hval 0 25 v0 rfl rfl) hsz (j := 0) rfl rfl h0
  obtain ⟨A0_0, c0_0, A0_1, c0_1, rfl, hc0_0, hr0_0, hc0_1, hr0_1⟩ := k25_open hK0
  obtain ⟨l0_0, l0_1, a0_2, a0_3, a0_4⟩ := x0
  obtain ⟨hf0_0, hf0_1, hf0_2, hf0_3, hf0_4⟩ := hf0
  obtain ⟨a1, rfl, rfl, rfl, hf1⟩ := open_int Try.underlying44 (hval 1 44 v1 rfl rfl) h1
  obtain ⟨a2, rfl, rfl, rfl, hf2⟩ := open_int Try.underlying44 (hval 2 44 v2 rfl rfl) h2
  clear hA0 hval0 hsz0 hsz
  obtain ⟨k, h⟩ := Pure.ClassApart l0_0 l0_1 a0_2 a0_3 a0_4 a1 a2 hf0_0 hf0_1 hf0_2 hf0_3 hf0_4 hf1 hf2
  refine (P.crossroadslaw17_ClassApart.calls k A0_0 c0_0 l0_0 A0_1 c0_1 l0_1 a0_2 a0_3 a0_4 a1 a2 true W hr0_0 hc0_0 hr0_1 hc0_1 h).mono fun e W' ⟨he, bel0⟩ => ?_
  have bel : Below W.heap.size W W' := bel0
  subst he
  exact ⟨_, rfl, _, _, _, [], _, [], hW', trodAll_mk1 (shut_bool Try.underlying4 _), (trodAll_cons_mk (Below.trod laidOut (by kernel_rfl) (of_decide_eq_true (by kernel_rfl)) k0 bel lt0) (trodAll_cons_mk (shut_int Try.underlying44 hf1) (trodAll_cons_mk (shut_int Try.underlying44 hf2) trodAll_mk0))), rfl, bel.frame _, fun h => by cases h⟩
theorem over : Rows.classApartRow.holds Try.pinned (OpenSpec.ofChange Rows.classApartSpec) :=
  OpenClaim.holds_of_wide 6 Try.f6 rfl rfl rfl rfl rfl rfl rfl ⟨rfl, rfl, rfl, rfl, rfl⟩ rfl rfl rfl rfl rfl (by kernel_rfl) Try.func6 (by kernel_rfl)
    (of_decide_eq_true (by kernel_rfl)) (by unfold Func.isWrapper; first | (rw [if_pos (by decide +kernel)]; kernel_rfl) | (rw [if_neg (by decide +kernel)]; exact ⟨rfl, rfl⟩))
    (fun os started H enc _ => lifted os started H enc)
theorem proved : Rows.ClassApartSaid := over
#print axioms proved
end Go.Proofs.Ytmlnoapfhimgoaa.classApart
namespace Go.Proofs.Ytmlnoapfhimgoaa
/-- The row, under a short name, for the claim. -/
theorem classApart_holds : Rows.ClassApartSaid := classApart.proved
end Go.Proofs.Ytmlnoapfhimgoaa
