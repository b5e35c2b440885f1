/- slices.ContainsFunc at one function. -/
import Derived.Test.YtpjnacblaipljaaProg
import Derived.Below
import Derived.Deep.Draws
import Derived.Deep.AppendLies
import Derived.Maps.AppendAt
import Derived.OwnWalk
import Derived.Laws.BytesArg
import Derived.Laws.MakeOwn
import Derived.Laws.OwnMore
import Derived.Deep.OwnRows
import Derived.Tactics
import Derived.Lib.ConvBytes
import Derived.Laws.Slices
import Derived.WalkKit
import Derived.WalkSpells
import Derived.KernelRfl
import Derived.RowKit3
import Derived.Deep.LoopGhost
import Derived.Deep.QuietTactic
import Derived.BigQuiet
import Derived.WideLaws
import Derived.Deep.DeepCutAuto
import Derived.Deep.CutBlock
import Derived.Deep.RegionHeld3
import Derived.Laws.Rows
import Derived.Lib.AppendStr
import Derived.ArgAppend
import Derived.Laws.IdiomCopy
import Derived.OrdersHeld
import Derived.Laws.BitsLemmas
import Derived.RowKit
import Derived.Test.YtpjnacblaipljaaWMore
import Derived.Test.YtpjnacblaipljaaWInvWords
import Derived.Test.YtpjnacblaipljaaWGuard
import Derived.Test.YtpjnacblaipljaaWNEv
namespace Go.Proofs.Ytpjnacblaipljaa.G
open Go.RowKit Go.Proofs.YtpjnacblaipljaaW.PrintWords Go.Proofs.YtpjnacblaipljaaW.PrintLast Go.Proofs.YtpjnacblaipljaaW.PrintMore
set_option linter.unusedVariables false
set_option linter.unusedSimpArgs false
def pred27 (x : Int) : Bool := decide (x < -1) || decide (1 < x)
theorem clos27 (x : Int) (w : World) : Calls Try.prog 27 #[.int .i64 x] w fun e w' => e = .returned (.bool (pred27 x)) ∧ w' = w := by
  by_cases h : x < -1
  · have hb : pred27 x = true := by simp [pred27, h]
    go_enter Try.func27, Try.ntmps27
    go_wp2
    go_ret
    exact ⟨by rw [hb]; rfl, rfl⟩
  · by_cases h2 : 1 < x
    · have hb : pred27 x = true := by simp [pred27, h2]
      go_enter Try.func27, Try.ntmps27
      go_wp2
      go_ret
      exact ⟨rfl, rfl⟩
    · have hb : pred27 x = false := by simp [pred27, h, h2]
      go_enter Try.func27, Try.ntmps27
      go_wp2
      go_ret
      exact ⟨rfl, rfl⟩
theorem any_yes {l : List Int} {k : Nat} (hk : k < l.length) (hp : pred27 (rd l k) = true) : l.any pred27 = true := by
  refine List.any_eq_true.2 ⟨l[k], List.getElem_mem hk, ?_⟩
  have : rd l (k : Int) = l[k] := by simp [rd, List.getD, hk]
  rw [← this]; exact hp
theorem any_no {l : List Int} (h : ∀ j, j < l.length → pred27 (l.getD j 0) = false) : l.any pred27 = false := by
  refine List.any_eq_false.2 fun x hx => ?_
  obtain ⟨j, hj, rfl⟩ := List.mem_iff_getElem.1 hx
  have := h j hj
  simp only [List.getD, List.getElem?_eq_getElem hj, Option.getD_some] at this
  simp [this]
set_option maxHeartbeats 800000 in
theorem index27 (A0 : Option Addr) (c0 : Nat) (l0 : List Int) (w : World) (hr0 : Kd.C (Kd.int .i64) w A0 l0.length l0) :
    Calls Try.prog 33 #[.slice A0 l0.length c0, .func (.func 27) #[] #[]] w fun e w' => (∃ r : Int, e = .returned (.int .i64 r) ∧ Aside0 (decide (0 ≤ r) = l0.any pred27)) ∧ w' = w := by
  have hlen := hr0.2.1
  have HR := Aside0.mk hr0
  clear hr0
  go_enter Try.func33, Try.ntmps33
  go_wp2
  go_loop [8] (fun i => ∃ k : Nat, k ≤ l0.length ∧ i = .int .i64 k ∧ Aside0 (∀ j, j < k → pred27 (l0.getD j 0) = false)) (fun i => l0.length - (intOf i).toNat)
  case atStart => exact ⟨0, Nat.zero_le _, rfl, ⟨fun j hj => absurd hj (Nat.not_lt_zero _)⟩⟩
  case round =>
    obtain ⟨k, hk, rfl, hall⟩ := hrel
    by_cases hlt : k < l0.length
    · obtain ⟨ad, eA, hx⟩ := Kd.at_int HR.out (k : Int) (by omega) (by omega)
      have hx' : w.cell? (ad.add k) = some (.int .i64 (rd l0 k)) := by simpa using hx
      clear hx
      subst eA
      by_cases hp : pred27 (rd l0 k) = true
      · have HP := Aside0.mk hp
        clear hp
        go_wp2_with (go_at_call 27; refine (clos27 _ _).mono ?_; rintro e w' ⟨rfl, rfl⟩)
        · go_ret
          exact ⟨⟨_, rfl, ⟨by rw [any_yes hlt HP.out]; simp⟩⟩, rfl⟩
        · rename_i hq
          rw [HP.out] at hq
          exact absurd hq (by decide)
      · have HP := Aside0.mk (by simpa using hp : pred27 (rd l0 k) = false)
        clear hp
        go_wp2_with (go_at_call 27; refine (clos27 _ _).mono ?_; rintro e w' ⟨rfl, rfl⟩)
        · rename_i hq
          rw [HP.out] at hq
          exact absurd hq (by decide)
        · go_round
          case rel => exact ⟨k + 1, by omega, by go_num, ⟨fun j hj => by
            rcases Nat.lt_succ_iff_lt_or_eq.1 hj with h | rfl
            · exact hall.out j h
            · have := HP.out; simpa [rd] using this⟩⟩
          case measure => simp [intOf]; omega
    · have hke : k = l0.length := by omega
      subst hke
      go_wp2
      go_ret
      exact ⟨⟨_, rfl, ⟨by rw [any_no hall.out]; rfl⟩⟩, rfl⟩
def slices_ContainsFunc_int_int.f (l0 : List Int) : Option Bool := some (l0.any pred27)
theorem slices_ContainsFunc_int_int.calls (A0 : Option Addr) (c0 : Nat) (l0 : List Int) (r : Bool) (w : World) (hr0 : Kd.C (Kd.int .i64) w A0 l0.length l0) (hc0 : l0.length ≤ c0) (h : slices_ContainsFunc_int_int.f l0 = some r) :
    Calls Try.prog 26 #[.slice A0 l0.length c0, .func (.func 27) #[] #[]] w fun e w' => e = .returned (.bool r) ∧ Drawn0 w w' := by
  obtain rfl := Option.some.inj h
  clear h
  go_enter Try.func26, Try.ntmps26
  go_wp2_with (go_at_call 33; refine (index27 _ _ _ _ hr0).mono ?_; rintro e w' ⟨⟨q, rfl, hq⟩, rfl⟩)
  go_ret
  exact ⟨by rw [← hq.out]; rfl, Drawn0.refl _⟩
end Go.Proofs.Ytpjnacblaipljaa.G
