/- ref22's octal in closed words; its head as it is made, and that it is tar's. Plain. -/
import Derived.Test.YtlnogacjebbepaaDoorEPut2
namespace Go.Proofs.YtlnogacjebbepaaDoor.H
set_option linter.unusedVariables false
set_option linter.unusedSimpArgs false
open Go.RowKit Go.Proofs.YtlnogacjebbepaaDoor.P Go.Proofs.YtlnogacjebbepaaDoorW.PrintWords Go.Proofs.YtlnogacjebbepaaDoorW.PrintLast Go.Proofs.YtlnogacjebbepaaDoorW.PrintMore
/-- The lowest digit of base 8. -/
def dg0 (n : Int) : Int := (48 + ((Go.bits .and .i64 n 7) % 256)) % 256
/-- Digits ahead of s, the lowest of n last. -/
def octS : Nat → Int → ByteArray → ByteArray
  | 0, _, s => s
  | m + 1, n, s => octS m (n / 8) (strOfNums [dg0 n] ++ s)
theorem one_size (x : Int) : (strOfNums [x]).size = 1 := rfl
theorem app_size (a b : ByteArray) : (a ++ b).size = a.size + b.size := ByteArray.size_append
theorem octS_size : ∀ (m : Nat) (n : Int) (s : ByteArray), (octS m n s).size = m + s.size
  | 0, n, s => by simp [octS]
  | m + 1, n, s => by rw [octS, octS_size m, app_size, one_size]; omega
theorem octS_l0 (d : Nat) (hd : d ≤ 100) : ∀ (m : Nat) (n : Int) (s : ByteArray) (i : Nat), i + m = d → s.size = i → Ev (fun k => crossroadsref22_octal.l0 k n (d : Int) s (i : Int)) (octS m n s)
  | 0, n, s, i, h, hs => Ev.step (f := fun _ => some s) (fun k => by rw [crossroadsref22_octal.l0, if_neg (by omega)]) (Ev.now _)
  | m + 1, n, s, i, h, hs => by
    have h1 : (strOfNums [dg0 n] ++ s).size = i + 1 := by rw [app_size, one_size]; omega
    refine Ev.step (fun k => ?_) (octS_l0 d hd m (n / 8) (strOfNums [dg0 n] ++ s) (i + 1) (by omega) h1)
    rw [crossroadsref22_octal.l0, if_pos (by omega), Option.bind_some]
    have e : (48 + ((Go.bits .and .i64 n 7) % 256)) % 256 = dg0 n := rfl
    rw [e, if_pos (by rw [one_size]; omega), w64 (x := (i : Int) + 1) (by omega)]
    rfl
theorem octS_ev (n : Int) (d : Nat) (hd : d ≤ 100) : Ev (fun k => crossroadsref22_octal.f k n (d : Int)) (octS d n ⟨#[]⟩) := octS_l0 d hd d n ⟨#[]⟩ 0 (by omega) rfl
theorem rsum_l0 (H : List Int) (hH : H.length ≤ 100000) : ∀ (d : List Int) (a : Int) (i : Nat), i ≤ H.length → H.drop i = d → Ev (fun k => crossroadsref22_Sum.l0 k H a (i : Int)) (sumW a i d)
  | [], a, i, hi, h => by
    have h1 : H.length - i = 0 := by rw [← List.length_drop, h]; rfl
    exact Ev.step (f := fun _ => some a) (fun k => by rw [crossroadsref22_Sum.l0, if_neg (by omega)]) (Ev.now _)
  | x :: d, a, i, hi, h => by
    have hlt : i < H.length := by
      apply Decidable.byContradiction
      intro hn
      rw [List.drop_eq_nil_of_le (by omega)] at h
      cases h
    have h2 := h
    rw [List.drop_eq_getElem_cons hlt] at h2
    injection h2 with h3 h4
    have hx : rd H (i : Int) = x := by
      unfold rd
      rw [List.getD_eq_getElem?_getD, Int.toNat_natCast, List.getElem?_eq_getElem hlt]
      exact h3
    have ih := rsum_l0 H hH d (if 148 ≤ i ∧ i < 156 then wrap64 (a + 32) else wrap64 (a + wrap64 x)) (i + 1) (by omega) h4
    refine Ev.step (fun k => ?_) ih
    rw [crossroadsref22_Sum.l0, if_pos (by omega), hx, w64 (x := (i : Int) + 1) (by omega)]
    by_cases c1 : 148 ≤ i
    · by_cases c2 : i < 156
      · rw [if_pos (by omega), if_pos (by omega), if_pos ⟨c1, c2⟩]; rfl
      · rw [if_pos (by omega), if_neg (by omega), if_pos (by omega), if_neg (fun hh => c2 hh.2)]; rfl
    · rw [if_neg (by omega), if_pos (by omega), if_neg (fun hh => c1 hh.1)]; rfl
theorem rsum_ev (H : List Int) (hH : H.length ≤ 100000) : Ev (fun k => crossroadsref22_Sum.f k H) (sumV H) := rsum_l0 H hH H 0 0 (by omega) rfl
def zs7 : ByteArray := ⟨#[48, 48, 48, 48, 48, 48, 48]⟩
def zs11 : ByteArray := ⟨#[48, 48, 48, 48, 48, 48, 48, 48, 48, 48, 48]⟩
def rmode (dir : Bool) : ByteArray := if dir = true then ⟨#[48, 48, 48, 48, 55, 53, 53]⟩ else ⟨#[48, 48, 48, 48, 54, 52, 52]⟩
def rkind (dir : Bool) : ByteArray := if dir = true then ⟨#[53]⟩ else ⟨#[48]⟩
def rmagic : ByteArray := ⟨#[117, 115, 116, 97, 114, 0, 48, 48]⟩
def rend : ByteArray := ⟨#[0, 32]⟩
def rpreL (name : ByteArray) (dir : Bool) (n : Int) : List Int :=
  putL (putL (putL (putL (putL (putL (putL (putL (List.replicate 512 0) 0 (nums name)) 100 (nums (rmode dir))) 108 (nums zs7)) 116 (nums zs7)) 124 (nums (octS 11 n ⟨#[]⟩))) 136 (nums zs11)) 156 (nums (rkind dir))) 257 (nums rmagic)
def rheadL (name : ByteArray) (dir : Bool) (n : Int) : List Int := putL (rpreL name dir n) 148 (nums (octS 6 (sumV (rpreL name dir n)) ⟨#[]⟩ ++ rend))
end Go.Proofs.YtlnogacjebbepaaDoor.H
