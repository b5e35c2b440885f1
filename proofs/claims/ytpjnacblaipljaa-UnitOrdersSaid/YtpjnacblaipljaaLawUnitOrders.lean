-- Laid by a program of this session (the kit's print, changed): Lean checks it.
import Derived.Test.YtpjnacblaipljaaRows
import Derived.Test.YtpjnacblaipljaaUnitConf
import Derived.Test.YtpjnacblaipljaaOrdersWalk
import Derived.Test.YtpjnacblaipljaaOpen
import Derived.WalkKit
import Derived.ProofKit
import Derived.OpenShut
import Derived.ShutString
import Derived.ChangeOld
import Derived.Below
import Derived.SizedLaws
namespace Go.Proofs.Ytpjnacblaipljaa.unitOrders
open Go.ChangeShapes Go.WideShapes Go.ChangeAt Go.RowKit Go.Proofs.Ytpjnacblaipljaa.Open Go.Proofs.Ytpjnacblaipljaa.P Go.Proofs.YtpjnacblaipljaaW.PrintWords
open Go.ChangeMaps (open_string shut_string)
set_option linter.unusedVariables false
theorem own : ownKnob Try.prog.godebug = none := by kernel_rfl
theorem laidOut : laidOutB Try.prog = true := by kernel_rfl
open Go.Proofs.Ytpjnacblaipljaa.P Go.Proofs.Ytpjnacblaipljaa.Lem Go.Proofs.Ytpjnacblaipljaa.Pure Go.Proofs.Ytpjnacblaipljaa.Conf Go.Proofs.Ytpjnacblaipljaa.Orders
/-- Any formula, turned and reversed: the law answers true. -/
theorem orders_any (W : World) (n : Int) (A : Option Addr) (c : Nat) (f : List (List Int)) (turn : Int) (hr : Kd.C (Kd.slice 3 (Kd.int .i64)) W A f.length f) (hc : f.length ≤ c) (hn : (Lit.int .u8 n).wf = true)
    (hf : f.length * 24 ≤ 140737488351232 ∧ f.length ≤ 9223372036854775807 ∧ ∀ y1_ ∈ f, (y1_.length * 8 ≤ 140737488351232 ∧ y1_.length ≤ 9223372036854775807 ∧ ∀ y2_ ∈ y1_, (Lit.int .i64 y2_).wf = true)) (ht : (Lit.int .u8 turn).wf = true) :
    Calls Try.prog 9 #[.int .u8 n, .slice A f.length c, .int .u8 turn] W fun e w' => e = .returned (.bool true) ∧ Below W.heap.size W w' := by
  have hcame := keeps_came_of hf.2.1 hf.2.2
  obtain ⟨q, hqe, hq⟩ := mod_small (wf8 hn) 30 (by decide)
  obtain ⟨t0, t1⟩ := wf8 ht
  obtain ⟨s, Ks, hs⟩ := small_some hf.2.1 800
  obtain ⟨Ka, hA⟩ := keeps_awake
  obtain ⟨Km, hM⟩ := rmay_is q f hcame
  obtain ⟨K, h1, h2, h3⟩ : ∃ K, Ks ≤ K ∧ Ka ≤ K ∧ Km ≤ K := ⟨Ks + Ka + Km, by omega, by omega, by omega⟩
  have hs := hs K h1
  have hA := hA K h2
  have hM := hM K h3
  cases s with
  | false => exact orders_small W n turn A c f hr hc hf.1 q hq hqe t0 t1 K _ hs hA hM
  | true =>
    cases hmay : mayB q f with
    | false => rw [hmay] at hM; exact orders_may W n turn A c f hr hc hf.1 q hq hqe t0 t1 K hs hA hM
    | true =>
      rw [hmay] at hM
      by_cases hnil : f.length = 0
      · exact orders_nil W n turn A c f hr hc hf.1 q hq hqe t0 t1 K hs hA hM (beq_iff_eq.mpr (by omega))
      · obtain ⟨hds, hhs, hal⟩ := heads hr
        have hok : ∀ c ∈ f, ∀ v ∈ c, litOk q v = true := by
          unfold mayB at hmay
          simp only [Bool.and_eq_true, decide_eq_true_eq, List.all_eq_true] at hmay
          exact hmay.2.2
        obtain ⟨r, hrun⟩ := runs_some (n := q) (by omega) hok _ (List.replicate q 0) rfl (zeros_asg q)
        obtain ⟨⟨x1, x2, x3⟩, hx⟩ : ∃ x, said r = x := ⟨_, rfl⟩
        have hx1 : x1.length ≤ 9223372036854775807 := by
          cases r with
          | none => cases hx; simp
          | some m => cases hx; have := (runs_asg (by omega) hok hrun (zeros_asg q) _ rfl).len; omega
        refine orders_main W n turn A c f hr hc hf.1 q hq hqe t0 t1 K hs hA hM hnil hds hhs hal x1 x2 x3 fun gl hgl hlen => ?_
        have hokg : ∀ c ∈ gl, ∀ v ∈ c, litOk q v = true := fun c hc => hok c ((hgl c).1 hc)
        have hcg : Came gl := ⟨by omega, fun c hc => hcame.rows c ((hgl c).1 hc)⟩
        have hmayg : mayB q gl = true := by
          unfold mayB at hmay ⊢
          simp only [Bool.and_eq_true, decide_eq_true_eq, List.all_eq_true] at hmay ⊢
          exact ⟨hmay.1, hmay.2.1, hokg⟩
        obtain ⟨r', hrun'⟩ := runs_some (n := q) (by omega) hokg _ (List.replicate q 0) rfl (zeros_asg q)
        have e : r' = r := runs_same (by omega) hok hgl (zeros_asg q) hrun hrun'
        obtain ⟨K1, hR⟩ := run_is hcg (by rw [List.length_replicate]; omega) (fine_of hmayg (zeros_asg q)) hrun'
        obtain ⟨K2, hS⟩ := same_is x1 x1 hx1
        refine ⟨K1 + K2, ?_, ?_⟩
        · exact (hR (K1 + K2) (by omega)).trans (by rw [e, hx])
        · exact (hS (K1 + K2) (by omega)).trans (by rw [decide_eq_true rfl])
set_option maxRecDepth 100000 in
theorem lifted (os : Os) (started : os.Started) (H : Type) (enc : TypeId × Value → H) :
    ReturnsInHanded {} Try.checked os 9 .any (Rows.unitOrdersSpec.pre6 enc Try.prog Try.f9 Rows.unitOrdersRow.domain false) (Rows.unitOrdersSpec.post enc Try.prog Try.f9 false true false false) := by
  refine returnsInHanded_of_change_sized (C := Try.checked) own started (by kernel_rfl) Try.func9
    (ChangeSpec.witness6 (enc := enc) (C := Try.checked) false ⟨#[], #[.int .u8 0, .slice none 0 0, .int .u8 0], []⟩ 8 (by kernel_rfl) (by kernel_rfl) (by kernel_rfl) (by kernel_rfl)) ?_
  intro W base args ds gs before hval0 hW hcnd hsz0 _
  have hsz : (DataW.weightsEach Try.prog (Try.f9.params.toList ++ Rows.unitOrdersSpec.plain.varTypes Try.prog) (ds ++ gs)).all (· ≤ reachBytes) = true := hsz0
  have hval : ∀ (j : Nat) t v, Try.f9.params[j]? = some t → args[j]? = some v → Value.okWide Try.prog W .any base t v := hval0
  have hW' := hW
  obtain ⟨p, q, hA0, hV, rfl, hfz, hnd⟩ := hW
  have hA : DataW.TrodAll enc Try.prog W 0 (fun _ => true) true Try.f9.params.toList args.toList ds p := hA0
  rw [Try.params9] at hA hval hsz
  obtain ⟨v0, vs0, d0, ds0, p0, q0, hargs, rfl, rfl, h0, r0⟩ := trodAll_cons hA
  obtain ⟨v1, vs1, d1, ds1, p1, q1, rfl, rfl, rfl, h1, r1⟩ := trodAll_cons r0
  obtain ⟨v2, vs2, d2, ds2, p2, q2, rfl, rfl, rfl, h2, r2⟩ := trodAll_cons r1
  obtain ⟨rfl, rfl, rfl⟩ := trodAll_nil r2
  obtain rfl : args = #[v0, v1, v2] := by cases args; simp_all
  obtain ⟨rfl, rfl⟩ := trodVars_none hV
  obtain ⟨a0, rfl, rfl, rfl, hf0⟩ := open_int Try.underlying5 (hval 0 5 v0 rfl rfl) h0
  have k1 := h1
  have lt1 : ∀ x ∈ p1, x.block < W.heap.size := by obtain ⟨m, hm⟩ := k1; exact DataW.trod_lt m _ _ _ hm
  obtain ⟨A1, c1, l1, rfl, hc1, hr1, hf1⟩ := Opens.argSlice (Opens.slice (B := 24) Try.underlying31 (by kernel_rfl) (by kernel_rfl) (Opens.slice (B := 8) Try.underlying32 (by kernel_rfl) (by kernel_rfl) (Opens.int Try.underlying3 (by kernel_rfl)))) Try.underlying31 (hval 1 31 v1 rfl rfl) hsz (j := 1) rfl rfl h1
  obtain ⟨a2, rfl, rfl, rfl, hf2⟩ := open_int Try.underlying5 (hval 2 5 v2 rfl rfl) h2
  clear hA0 hval0 hsz0 hsz
  refine (orders_any W a0 A1 c1 l1 a2 hr1 hc1 hf0 hf1 hf2).mono fun e W' ⟨he, bel0⟩ => ?_
  have bel : Below W.heap.size W W' := bel0
  subst he
  exact ⟨_, rfl, _, _, _, [], _, [], hW', trodAll_mk1 (shut_bool Try.underlying4 _), (trodAll_cons_mk (shut_int Try.underlying5 hf0) (trodAll_cons_mk (Below.trod laidOut (by kernel_rfl) (of_decide_eq_true (by kernel_rfl)) k1 bel lt1) (trodAll_cons_mk (shut_int Try.underlying5 hf2) trodAll_mk0))), rfl, bel.frame _, fun h => by cases h⟩
theorem over : Rows.unitOrdersRow.holds Try.pinned (OpenSpec.ofChange Rows.unitOrdersSpec) :=
  OpenClaim.holds_of_wide 9 Try.f9 rfl rfl rfl rfl rfl rfl rfl ⟨rfl, rfl, rfl, rfl, rfl⟩ rfl rfl rfl rfl rfl (by kernel_rfl) Try.func9 (by kernel_rfl)
    (of_decide_eq_true (by kernel_rfl)) (by unfold Func.isWrapper; first | (rw [if_pos (by decide +kernel)]; kernel_rfl) | (rw [if_neg (by decide +kernel)]; exact ⟨rfl, rfl⟩))
    (fun os started H enc _ => lifted os started H enc)
theorem proved : Rows.UnitOrdersSaid := over
#print axioms proved
end Go.Proofs.Ytpjnacblaipljaa.unitOrders
namespace Go.Proofs.Ytpjnacblaipljaa
/-- The row, under a short name, for the claim. -/
theorem unitOrders_holds : Rows.UnitOrdersSaid := unitOrders.proved
end Go.Proofs.Ytpjnacblaipljaa
