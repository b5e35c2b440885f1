/- strings.Cut at the separator of one byte "/". -/
import Derived.Test.YtmlnoapfhimgoaaShelf
import Derived.Test.YtmlnoapfhimgoaaWWords
import Derived.Test.YtmlnoapfhimgoaaWLast
import Derived.Test.YtmlnoapfhimgoaaWMore
import Derived.WalkKit
namespace Go.Proofs.Ytmlnoapfhimgoaa.G
set_option linter.unusedVariables false
set_option linter.unusedSimpArgs false
open Go.RowKit Go.Proofs.YtmlnoapfhimgoaaW.PrintWords Go.Proofs.YtmlnoapfhimgoaaW.PrintLast Go.Proofs.YtmlnoapfhimgoaaW.PrintMore
/-- Where the first slash is; -1 if there is none. -/
def slashAt (a : ByteArray) : Int := Lib.indexByte a.data.toList 47
def cutS (a : ByteArray) : ByteArray × ByteArray × Bool := if 0 ≤ slashAt a then (a.extract 0 (slashAt a).toNat, a.extract (slashAt a + 1).toNat a.size, true) else (a, ByteArray.empty, false)
def strings_Cut.f (a0 a1 : ByteArray) : Option (ByteArray × ByteArray × Bool) := if a1 = ⟨#[47]⟩ ∧ a0.size ≤ 9223372036854775807 then some (cutS a0) else none
theorem slashAt_lt (a : ByteArray) : slashAt a < a.size := by
  unfold slashAt
  have : ∀ l : List UInt8, Lib.indexByte l 47 < l.length := by
    intro l
    induction l with
    | nil => unfold Lib.indexByte; simp
    | cons b l ih =>
      unfold Lib.indexByte
      split
      · simp
      · split
        · simp; omega
        · simp; omega
  have := this a.data.toList
  simpa using this
set_option maxHeartbeats 1600000 in
set_option maxRecDepth 100000 in
theorem cut_calls (a0 : ByteArray) (w : World) (hsz : a0.size ≤ 9223372036854775807) :
    Calls Try.prog 48 #[.string a0, .string ⟨#[47]⟩] w fun e w' => e = .returned (.tuple #[.string (cutS a0).1, .string (cutS a0).2.1, .bool (cutS a0).2.2]) ∧ Drawn0 w w' := by
  obtain ⟨i, hi⟩ : ∃ i, slashAt a0 = i := ⟨_, rfl⟩
  have hlt := slashAt_lt a0
  rw [hi] at hlt
  have hI : Lib.indexByte a0.data.toList 47 = i := hi
  have hge : -1 ≤ i := by rw [← hI]; exact Lib.indexByte_ge _ _
  unfold cutS
  rw [hi]
  clear hi
  by_cases h0 : 0 ≤ i
  · rw [if_pos h0]
    have hw1 : wrap64 (i + 1) = i + 1 := by unfold wrap64; omega
    go_enter Try.func48, Try.ntmps48
    go_wp2_with (go_at_call 50; refine (Try.stringslite_Index_one a0 47 _).mono ?_; rintro e w' ⟨rfl, hw⟩; rw [hw, hI])
    have hb1 : i ≤ (a0.size : Int) := by omega
    have hb2 : i + 1 ≤ (a0.size : Int) := by omega
    have hb3 : 0 ≤ i + 1 := by omega
    go_quiet (fail)
    try go_wp2
    go_ret3
    exact ⟨rfl, ⟨_, rfl⟩⟩
  · rw [if_neg h0]
    go_enter Try.func48, Try.ntmps48
    go_wp2_with (go_at_call 50; refine (Try.stringslite_Index_one a0 47 _).mono ?_; rintro e w' ⟨rfl, hw⟩; rw [hw, hI])
    repeat (go_quiet (fail); try go_wp2)
    go_ret3
    exact ⟨rfl, by repeat (first | exact Drawn0.refl _ | apply Drawn0.step)⟩
set_option maxHeartbeats 1600000 in
set_option maxRecDepth 100000 in
theorem strings_Cut.calls (a0 a1 : ByteArray) (r1 r2 : ByteArray) (r3 : Bool) (w : World) (h : strings_Cut.f a0 a1 = some (r1, r2, r3)) :
    Calls Try.prog 45 #[.string a0, .string a1] w fun e w' => e = .returned (.tuple #[.string r1, .string r2, .bool r3]) ∧ Drawn0 w w' := by
  unfold strings_Cut.f at h
  by_cases h1 : a1 = ⟨#[47]⟩ ∧ a0.size ≤ 9223372036854775807
  · rw [if_pos h1] at h
    obtain ⟨rfl, hsz⟩ := h1
    injection h with h
    have hc := cut_calls a0
    rw [h] at hc
    clear h
    go_enter Try.func45, Try.ntmps45
    go_wp2_with (go_at_call 48; refine (hc _ hsz).mono ?_; rintro e w' ⟨rfl, ⟨n1, rfl⟩⟩)
    repeat (go_quiet (fail); try go_wp2)
    go_ret3
    exact ⟨rfl, by repeat (first | exact Drawn0.refl _ | apply Drawn0.step)⟩
  · rw [if_neg h1] at h; cases h
end Go.Proofs.Ytmlnoapfhimgoaa.G
