-- Laid by a program of this session (the kit's print, changed): Lean checks it.
import Derived.Test.YtpjnacblaipljaaRows
import Derived.Test.YtpjnacblaipljaaFailsGo
import Derived.Test.YtpjnacblaipljaaOpen
import Derived.WalkKit
import Derived.ProofKit
import Derived.OpenShut
import Derived.ShutString
import Derived.ChangeOld
import Derived.Below
import Derived.SizedLaws
namespace Go.Proofs.Ytpjnacblaipljaa.failsGo
open Go.ChangeShapes Go.WideShapes Go.ChangeAt Go.RowKit Go.Proofs.Ytpjnacblaipljaa.Open Go.Proofs.YtpjnacblaipljaaW.PrintWords
open Go.ChangeMaps (open_string shut_string)
set_option linter.unusedVariables false
theorem own : ownKnob Try.prog.godebug = none := by kernel_rfl
theorem laidOut : laidOutB Try.prog = true := by kernel_rfl
structure S23 where
  f0 : Int
  f1 : Int
def k23 : Kd S23 := Kd.iso (Kd.pair (Kd.int .i64) (Kd.int .i64)) (fun x : S23 => (x.f0, x.f1))
theorem k23_open {w : World} {x : S23} {cs : List Value} (h : k23.K w x cs) : cs = [.int .i64 x.f0, .int .i64 x.f1] := by
  obtain ⟨_, _, rfl, rfl, rfl⟩ := h
  exact rfl
theorem opens_23 : Opens Try.prog 23 k23 (fun x => ((Lit.int .i64 x.f0).wf = true ∧ (Lit.int .i64 x.f1).wf = true)) :=
  Opens.iso (fun x : S23 => (x.f0, x.f1)) (fun y => ⟨y.1, y.2⟩) (fun _ => rfl) (Opens.array2 Try.underlying23 (by kernel_rfl) (Opens.int Try.underlying3 (by kernel_rfl)))
set_option maxRecDepth 100000 in
theorem lifted (os : Os) (started : os.Started) (H : Type) (enc : TypeId × Value → H) :
    ReturnsInHanded {} Try.checked os 3 .any (Rows.failsGoSpec.pre6 enc Try.prog Try.f3 Rows.failsGoRow.domain false) (Rows.failsGoSpec.post enc Try.prog Try.f3 false true false false) := by
  refine returnsInHanded_of_change_sized (C := Try.checked) own started (by kernel_rfl) Try.func3
    (ChangeSpec.witness6 (enc := enc) (C := Try.checked) false ⟨#[], #[.slice none 0 0, .int .u8 0, .agg #[.int .i64 0, .int .i64 0]], []⟩ 8 (by kernel_rfl) (by kernel_rfl) (by kernel_rfl) (by kernel_rfl)) ?_
  intro W base args ds gs before hval0 hW hcnd hsz0 _
  have hsz : (DataW.weightsEach Try.prog (Try.f3.params.toList ++ Rows.failsGoSpec.plain.varTypes Try.prog) (ds ++ gs)).all (· ≤ reachBytes) = true := hsz0
  have hval : ∀ (j : Nat) t v, Try.f3.params[j]? = some t → args[j]? = some v → Value.okWide Try.prog W .any base t v := hval0
  have hW' := hW
  obtain ⟨p, q, hA0, hV, rfl, hfz, hnd⟩ := hW
  have hA : DataW.TrodAll enc Try.prog W 0 (fun _ => true) true Try.f3.params.toList args.toList ds p := hA0
  rw [Try.params3] at hA hval hsz
  obtain ⟨v0, vs0, d0, ds0, p0, q0, hargs, rfl, rfl, h0, r0⟩ := trodAll_cons hA
  obtain ⟨v1, vs1, d1, ds1, p1, q1, rfl, rfl, rfl, h1, r1⟩ := trodAll_cons r0
  obtain ⟨v2, vs2, d2, ds2, p2, q2, rfl, rfl, rfl, h2, r2⟩ := trodAll_cons r1
  obtain ⟨rfl, rfl, rfl⟩ := trodAll_nil r2
  obtain rfl : args = #[v0, v1, v2] := by cases args; simp_all
  obtain ⟨rfl, rfl⟩ := trodVars_none hV
  have k0 := h0
  have lt0 : ∀ x ∈ p0, x.block < W.heap.size := by obtain ⟨m, hm⟩ := k0; exact DataW.trod_lt m _ _ _ hm
  obtain ⟨A0, c0, l0, rfl, hc0, hr0, hf0⟩ := Opens.argSlice (Opens.slice (B := 1) Try.underlying22 (by kernel_rfl) (by kernel_rfl) (Opens.bool Try.underlying4 (by kernel_rfl))) Try.underlying22 (hval 0 22 v0 rfl rfl) hsz (j := 0) rfl rfl h0
  obtain ⟨a1, rfl, rfl, rfl, hf1⟩ := open_int Try.underlying5 (hval 1 5 v1 rfl rfl) h1
  have k2 := h2
  have lt2 : ∀ x ∈ p2, x.block < W.heap.size := by obtain ⟨m, hm⟩ := k2; exact DataW.trod_lt m _ _ _ hm
  obtain ⟨x2, cs2, rfl, hK2, hf2⟩ := Opens.argArray opens_23 Try.underlying23 (hval 2 23 v2 rfl rfl) hsz (j := 2) rfl rfl h2
  obtain rfl := k23_open hK2
  obtain ⟨a2_0, a2_1⟩ := x2
  obtain ⟨hf2_0, hf2_1⟩ := hf2
  clear hA0 hval0 hsz0 hsz
  obtain ⟨n0, n1⟩ := Fails.wf_u8 hf1
  refine (show Calls Try.prog 3 #[.slice A0 l0.length c0, .int .u8 a1, .agg #[.int .i64 a2_0, .int .i64 a2_1]] W (fun e w' => e = .returned (.bool true) ∧ Below W.heap.size W w') from (by
    by_cases hl : l0.length ≤ 200
    · exact Fails.go_calls W A0 c0 l0 hr0 hc0 hl a1 n0 n1 a2_0 a2_1
    · exact Fails.go_long W A0 c0 l0 hl a1 a2_0 a2_1)).mono fun e W' ⟨he, bel0⟩ => ?_
  have bel : Below W.heap.size W W' := bel0
  subst he
  exact ⟨_, rfl, _, _, _, [], _, [], hW', trodAll_mk1 (shut_bool Try.underlying4 _), (trodAll_cons_mk (Below.trod laidOut (by kernel_rfl) (of_decide_eq_true (by kernel_rfl)) k0 bel lt0) (trodAll_cons_mk (shut_int Try.underlying5 hf1) (trodAll_cons_mk (Below.trod laidOut (by kernel_rfl) (of_decide_eq_true (by kernel_rfl)) k2 bel lt2) trodAll_mk0))), rfl, bel.frame _, fun h => by cases h⟩
theorem over : Rows.failsGoRow.holds Try.pinned (OpenSpec.ofChange Rows.failsGoSpec) :=
  OpenClaim.holds_of_wide 3 Try.f3 rfl rfl rfl rfl rfl rfl rfl ⟨rfl, rfl, rfl, rfl, rfl⟩ rfl rfl rfl rfl rfl (by kernel_rfl) Try.func3 (by kernel_rfl)
    (of_decide_eq_true (by kernel_rfl)) (by unfold Func.isWrapper; first | (rw [if_pos (by decide +kernel)]; kernel_rfl) | (rw [if_neg (by decide +kernel)]; exact ⟨rfl, rfl⟩))
    (fun os started H enc _ => lifted os started H enc)
theorem proved : Rows.FailsGoSaid := over
#print axioms proved
end Go.Proofs.Ytpjnacblaipljaa.failsGo
namespace Go.Proofs.Ytpjnacblaipljaa
/-- The row, under a short name, for the claim. -/
theorem failsGo_holds : Rows.FailsGoSaid := failsGo.proved
end Go.Proofs.Ytpjnacblaipljaa
