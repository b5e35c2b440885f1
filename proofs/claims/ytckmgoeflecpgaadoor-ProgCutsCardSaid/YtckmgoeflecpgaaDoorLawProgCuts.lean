-- Laid by a program of this session (the kit's print, changed): Lean checks it.
import Derived.Test.YtckmgoeflecpgaaDoorRows
import Derived.Test.YtckmgoeflecpgaaDoorCutsWalk
import Derived.Test.YtckmgoeflecpgaaDoorOpen
import Derived.Test.YtckmgoeflecpgaaDoorLaidA
import Derived.Lay
import Derived.SevenTiedAt
import Derived.Test.YtckmgoeflecpgaaDoorTie
import Derived.Test.YtckmgoeflecpgaaDoorCards
import Derived.WalkKit
import Derived.ProofKit
import Derived.OpenShut
import Derived.ShutString
import Derived.ChangeOld
import Derived.Below
import Derived.SizedLaws
namespace Go.Proofs.YtckmgoeflecpgaaDoor.progCuts
open Go.Proofs.YtckmgoeflecpgaaDoor.LaidA Go.ChangeShapes Go.WideShapes Go.ChangeAt Go.RowKit Go.Proofs.YtckmgoeflecpgaaDoor.Open Go.Proofs.YtckmgoeflecpgaaDoor.P Go.Proofs.YtckmgoeflecpgaaDoorW.PrintWords
open Go.ChangeMaps (open_string shut_string)
set_option linter.unusedVariables false
theorem opens_41 : Opens Tryd.prog 41 k41 (fun x => ((Lit.int .i64 x.f0).wf = true ∧ (Lit.int .i64 x.f1).wf = true)) :=
  Opens.iso (fun x : S41 => (x.f0, x.f1)) (fun y => ⟨y.1, y.2⟩) (fun _ => rfl) (Opens.struct Tryd.underlying41 (by kernel_rfl) (OpensF.cons rfl (Opens.int Tryd.underlying3 (by kernel_rfl)) (OpensF.one rfl (Opens.int Tryd.underlying3 (by kernel_rfl)))))
theorem opens_25 : Opens Tryd.prog 25 k25 (fun x => ((x.f0.length * 16 ≤ 140737488351232 ∧ x.f0.length ≤ 9223372036854775807 ∧ ∀ y6_ ∈ x.f0, ((Lit.int .i64 y6_.f0).wf = true ∧ (Lit.int .i64 y6_.f1).wf = true)) ∧ (x.f1.length * 16 ≤ 140737488351232 ∧ x.f1.length ≤ 9223372036854775807 ∧ ∀ y7_ ∈ x.f1, y7_.size ≤ 140737488351232))) :=
  Opens.iso (fun x : S25 => (x.f0, x.f1)) (fun y => ⟨y.1, y.2⟩) (fun _ => rfl) (Opens.struct Tryd.underlying25 (by kernel_rfl) (OpensF.cons rfl (Opens.slice (B := 16) Tryd.underlying22 (by kernel_rfl) (by kernel_rfl) opens_41) (OpensF.one rfl (Opens.slice (B := 16) Tryd.underlying23 (by kernel_rfl) (by kernel_rfl) (Opens.string Tryd.underlying9 (by kernel_rfl))))))
set_option maxRecDepth 100000 in
theorem lifted (os : Os) (started : os.Started) (H : Type) (enc : TypeId × Value → H) :
    ReturnsInHanded {} Tryd.checked os 8 .any (fun w args => (Rows.progCutsSpec.pre enc Tryd.prog Tryd.f8 [] false w args ∧ laidMetH Tryd.prog laidL w) ∧ sizedMet enc Tryd.prog Tryd.f8 (OpenSpec.ofChange Rows.progCutsSpec) false w args)
      (Rows.progCutsSpec.post enc Tryd.prog Tryd.f8 false true false false) := by
  refine returnsInHanded_of_change_and (C := Tryd.checked) (X := fun w _ => laidMetH Tryd.prog laidL w) (fun _ _ _ hh h => h.of_heap hh) own started (by kernel_rfl) Tryd.func8
    (ChangeSpec.witness_shaped (enc := enc) (C := Tryd.checked) (os := os) (X := fun w _ => laidMetH Tryd.prog laidL w) false (World.doorLaid Tryd.prog 400 os) #[.agg #[.slice none 0 0, .slice none 0 0], .int .u16 0, .slice none 0 0] 8 rfl (World.shaped_of_RefB (by kernel_rfl) (by kernel_rfl)) (by kernel_rfl) (by kernel_rfl) (by kernel_rfl) (door_met os _)) ?_
  intro W base args ds gs before hval0 hW hcnd hsz0 hL _
  have hsz : (DataW.weightsEach Tryd.prog (Tryd.f8.params.toList ++ Rows.progCutsSpec.plain.varTypes Tryd.prog) (ds ++ gs)).all (· ≤ reachBytes) = true := hsz0
  have hval : ∀ (j : Nat) t v, Tryd.f8.params[j]? = some t → args[j]? = some v → Value.okWide Tryd.prog W .any base t v := hval0
  have hW' := hW
  obtain ⟨p, q, hA0, hV, rfl, hfz, hnd⟩ := hW
  have hA : DataW.TrodAll enc Tryd.prog W 0 (fun _ => true) true Tryd.f8.params.toList args.toList ds p := hA0
  rw [Tryd.params8] at hA hval hsz
  obtain ⟨v0, vs0, d0, ds0, p0, q0, hargs, rfl, rfl, h0, r0⟩ := trodAll_cons hA
  obtain ⟨v1, vs1, d1, ds1, p1, q1, rfl, rfl, rfl, h1, r1⟩ := trodAll_cons r0
  obtain ⟨v2, vs2, d2, ds2, p2, q2, rfl, rfl, rfl, h2, r2⟩ := trodAll_cons r1
  obtain ⟨rfl, rfl, rfl⟩ := trodAll_nil r2
  obtain rfl : args = #[v0, v1, v2] := by cases args; simp_all
  obtain ⟨rfl, rfl⟩ := trodVars_none hV
  have k0 := h0
  have lt0 : ∀ x ∈ p0, x.block < W.heap.size := by obtain ⟨m, hm⟩ := k0; exact DataW.trod_lt m _ _ _ hm
  obtain ⟨x0, cs0, rfl, hK0, hf0⟩ := Opens.argStruct opens_25 Tryd.underlying25 (hval 0 25 v0 rfl rfl) hsz (j := 0) rfl rfl h0
  obtain ⟨A0_0, c0_0, A0_1, c0_1, rfl, hc0_0, hr0_0, hc0_1, hr0_1⟩ := k25_open hK0
  obtain ⟨l0_0, l0_1⟩ := x0
  obtain ⟨hf0_0, hf0_1⟩ := hf0
  obtain ⟨a1, rfl, rfl, rfl, hf1⟩ := open_int Tryd.underlying45 (hval 1 45 v1 rfl rfl) h1
  have k2 := h2
  have lt2 : ∀ x ∈ p2, x.block < W.heap.size := by obtain ⟨m, hm⟩ := k2; exact DataW.trod_lt m _ _ _ hm
  obtain ⟨A2, c2, l2, rfl, hc2, hr2, hf2⟩ := Opens.argSlice (Opens.slice (B := 1) Tryd.underlying28 (by kernel_rfl) (by kernel_rfl) (Opens.int Tryd.underlying5 (by kernel_rfl))) Tryd.underlying28 (hval 2 28 v2 rfl rfl) hsz (j := 2) rfl rfl h2
  clear hA0 hval0 hsz0 hsz
  have i0 : Go.Proofs.YtckmgoeflecpgaaDoor.H.InP W A0_0 l0_0.length c0_0 l0_0 A0_1 l0_1.length c0_1 l0_1 := ⟨rfl, rfl, hc0_0, hc0_1, hr0_0, hr0_1, by have h_ : l0_0.length * 16 ≤ 140737488351232 := hf0_0.1; omega, by have h_ : l0_1.length * 16 ≤ 140737488351232 := hf0_1.1; omega⟩
  have hu : 0 ≤ a1 ∧ a1 < 65536 := by
    have h := hf1
    simp [Lit.wf, IntKind.min, IntKind.max, IntKind.bits, IntKind.signed] at h
    omega
  have ok2 : Go.Proofs.YtckmgoeflecpgaaDoor.I.okB l2 := fun x hx => by
    have h := hf2.2.2 x hx
    simp [Lit.wf, IntKind.min, IntKind.max, IntKind.bits, IntKind.signed] at h
    omega
  refine (Go.Proofs.YtckmgoeflecpgaaDoor.H.cuts8 _ _ _ _ _ _ _ _ a1 A2 l2.length c2 l2 W (of_laid hL) i0 hu.1 hu.2 rfl hc2 hr2 ok2).mono fun e W' ⟨he, bel0⟩ => ?_
  have bel : Below W.heap.size W W' := bel0
  subst he
  exact ⟨_, rfl, _, _, _, [], _, [], hW', trodAll_mk1 (shut_bool Tryd.underlying4 _), (trodAll_cons_mk (Below.trod laidOut (by kernel_rfl) (of_decide_eq_true (by kernel_rfl)) k0 bel lt0) (trodAll_cons_mk (shut_int Tryd.underlying45 hf1) (trodAll_cons_mk (Below.trod laidOut (by kernel_rfl) (of_decide_eq_true (by kernel_rfl)) k2 bel lt2) trodAll_mk0))), rfl, bel.frame _, fun h => by cases h⟩
theorem row_holds : Rows.ProgCutsSaid :=
  OpenClaim.holds_of_wide 8 Tryd.f8 rfl rfl rfl rfl rfl rfl rfl ⟨rfl, rfl, rfl, rfl, rfl⟩ rfl rfl rfl rfl rfl (by kernel_rfl) Tryd.func8 (by kernel_rfl)
    (of_decide_eq_true (by kernel_rfl)) (by unfold Func.isWrapper; first | (rw [if_pos (by decide +kernel)]; kernel_rfl) | (rw [if_neg (by decide +kernel)]; exact ⟨rfl, rfl⟩))
    (fun os started H enc _ => lifted os started H enc)
theorem card_holds : Rows.ProgCutsCardSaid :=
  Claim7.holds_tied_plain_at .later [] Rows.progCutsCard.laidKinds true Rows.progCutsCard.stood.harness false
    row_holds (fun _ h => by cases h) (by kernel_rfl) (fun _ h => by cases h) progCuts_row_tie rfl ⟨rfl, rfl⟩ (by kernel_rfl) rfl
    (fun f fn hf hfn => by
      obtain rfl : f = 8 := Option.some.inj ((show Tryd.prog.funcNamed Rows.progCutsRow.func = some 8 by kernel_rfl).symm.trans hf) |>.symm
      obtain rfl : fn = Tryd.f8 := (Option.some.inj (Tryd.func8.symm.trans hfn)).symm
      exact ⟨by kernel_rfl, fun j t ht => by
        rw [Tryd.params8] at ht
        have hm : t ∈ [25, 45, 28] := by simpa using Array.mem_of_getElem? ht
        have hall : ([25, 45, 28].all fun u => !Tryd.prog.wantsStandIn u) = true := by kernel_rfl
        exact (show Tryd.prog.wantsStandIn t = false by simpa using List.all_eq_true.1 hall t hm)⟩)
    (by kernel_rfl)
#print axioms card_holds
end Go.Proofs.YtckmgoeflecpgaaDoor.progCuts
namespace Go.Proofs.YtckmgoeflecpgaaDoor
/-- The card, under a short name, for the claim. -/
theorem progCuts_holds : Rows.ProgCutsCardSaid := progCuts.card_holds
end Go.Proofs.YtckmgoeflecpgaaDoor
