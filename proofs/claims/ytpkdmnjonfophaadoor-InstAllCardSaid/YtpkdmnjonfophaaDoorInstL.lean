/- InstAll, walked: the table gone through, the names laid into a row of its own. -/
import Derived.Test.YtpkdmnjonfophaaDoorInstF
import Derived.Test.YtpkdmnjonfophaaDoorWWords
import Derived.Test.YtpkdmnjonfophaaDoorWLast
import Derived.Test.YtpkdmnjonfophaaDoorWTab
import Derived.Test.YtpkdmnjonfophaaDoorWQPut
import Derived.Test.YtpkdmnjonfophaaDoorWApart
import Derived.Test.YtpkdmnjonfophaaDoorWArr
import Derived.Test.YtpkdmnjonfophaaDoorWZeros
import Derived.Test.YtpkdmnjonfophaaDoorWFoot
import Derived.Test.YtpkdmnjonfophaaDoorWKept
import Derived.Test.YtpkdmnjonfophaaDoorWShare
import Derived.Test.YtpkdmnjonfophaaDoorWN
import Derived.Test.YtpkdmnjonfophaaDoorWFootNe
import Derived.Test.YtpkdmnjonfophaaDoorWAt
import Derived.Test.YtpkdmnjonfophaaDoorWEqStruct
import Derived.Test.YtpkdmnjonfophaaDoorWRepsOne
import Derived.Test.YtpkdmnjonfophaaDoorWInv
import Derived.Test.YtpkdmnjonfophaaDoorWInvWords
import Derived.Test.YtpkdmnjonfophaaDoorWGuard
import Derived.Test.YtpkdmnjonfophaaDoorWNEv
import Derived.Test.YtpkdmnjonfophaaDoorWMore
import Derived.Below
import Derived.Deep.Draws
import Derived.Deep.AppendLies
import Derived.Maps.AppendAt
import Derived.OwnWalk
import Derived.Laws.BytesArg
import Derived.Laws.MakeOwn
import Derived.Laws.OwnMore
import Derived.Deep.OwnRows
import Derived.Tactics
import Derived.Lib.ConvBytes
import Derived.Laws.Slices
import Derived.WalkKit
import Derived.WalkSpells
import Derived.KernelRfl
import Derived.RowKit3
import Derived.Deep.LoopGhost
import Derived.Deep.QuietTactic
import Derived.BigQuiet
import Derived.WideLaws
import Derived.Deep.DeepCutAuto
import Derived.Deep.CutBlock
import Derived.Deep.RegionHeld3
import Derived.Laws.Rows
import Derived.Lib.AppendStr
import Derived.ArgAppend
import Derived.Laws.IdiomCopy
import Derived.OrdersHeld
import Derived.Laws.BitsLemmas
import Derived.RowKit
namespace Go.Proofs.YtpkdmnjonfophaaDoor.I
set_option linter.unusedVariables false
set_option linter.unusedSimpArgs false
open Go.RowKit Go.Proofs.YtpkdmnjonfophaaDoorW.PrintWords Go.Proofs.YtpkdmnjonfophaaDoorW.PrintLast Go.Proofs.YtpkdmnjonfophaaDoorW.PrintMore
theorem infoS : (Tryd.prog.info? 9).map (fun i => (i.zero, i.size, i.bytes)) = some (some (.string ByteArray.empty), 1, 16) := by kernel_rfl
theorem oneS {w : World} (h : ByteArray) (e : TypeId) : Kd.string.C (w.alloc (.cells #[.string h] e)) (some ⟨w.heap.size, 0, none⟩) 1 [h] := by
  refine ⟨rfl, by omega, fun _ => ⟨_, rfl, fun j p hj => ?_⟩⟩
  cases j with
  | zero =>
    injection hj with hj
    subst hj
    refine ⟨[.string h], rfl, rfl, fun i u hu => ?_⟩
    cases i with
    | zero =>
      injection hu with hu
      subst hu
      show (w.alloc _).cell? (Addr.add ⟨w.heap.size, 0, none⟩ (0 * Kd.string.sz + 0)) = _
      rw [show (0 * Kd.string.sz + 0) = 0 by omega]
      rw [show (Addr.add ⟨w.heap.size, 0, none⟩ 0 : Addr) = ⟨w.heap.size, 0, none⟩ from rfl, World.cell?_alloc_mark]; rfl
    | succ i => simp at hu
  | succ j => simp at hj
theorem take_snoc {α : Type} (d : α) (l : List α) (k : Nat) (h : k < l.length) : l.take k ++ [l.getD k d] = l.take (k + 1) := by
  rw [List.take_add_one, List.getD_eq_getElem?_getD, List.getElem?_eq_getElem h]; rfl
def okRow (k : Nat) : Bool := !(nameOf ((k : Int) + 1)).data.toList.isEmpty && decide (0 ≤ takesB ((k : Int) + 1)) && decide (takesB ((k : Int) + 1) ≤ 3) && decide (0 ≤ givesB ((k : Int) + 1)) && decide (givesB ((k : Int) + 1) ≤ 2) && mayI ((k : Int) + 1) 0 && !mayI ((k : Int) + 1) (-1) && !mayI ((k : Int) + 1) 65536
theorem rows_ok : ((List.range 41).all okRow) = true := by kernel_rfl
theorem names_apart : ((List.range 41).all fun k => (List.range k).all fun i => !((names.getD i ByteArray.empty).data.toList == (names.getD k ByteArray.empty).data.toList)) = true := by kernel_rfl
theorem names_len : names.length = 41 := by kernel_rfl
theorem all_at {p : Nat → Bool} {n : Nat} (h : ((List.range n).all p) = true) (k : Nat) (hk : k < n) : p k = true := List.all_eq_true.1 h k (List.mem_range.2 hk)
structure RowOk (k : Nat) (nm : ByteArray) (tk gv : Int) : Prop where
  en : nameOf ((k : Int) + 1) = nm
  en' : names.getD k ByteArray.empty = nm
  ne : nm.toList.isEmpty = false
  et : takesB ((k : Int) + 1) = tk
  eg : givesB ((k : Int) + 1) = gv
  t0 : 0 ≤ tk
  t3 : tk ≤ 3
  g0 : 0 ≤ gv
  g2 : gv ≤ 2
  m0 : mayI ((k : Int) + 1) 0 = true
  m1 : mayI ((k : Int) + 1) (-1) = false
  m6 : mayI ((k : Int) + 1) 65536 = false
theorem row_ok (k : Nat) (hk : k < 41) : ∃ nm tk gv, RowOk k nm tk gv := by
  have h := all_at rows_ok k hk
  unfold okRow at h
  simp only [Bool.and_eq_true, decide_eq_true_eq, Bool.not_eq_true'] at h
  obtain ⟨⟨⟨⟨⟨⟨⟨h2, h3⟩, h4⟩, h5⟩, h6⟩, h7⟩, h8⟩, h9⟩ := h
  refine ⟨_, _, _, rfl, ?_, by rw [ByteArray.toList_eq]; exact h2, rfl, rfl, h3, h4, h5, h6, h7, h8, h9⟩
  unfold nameOf
  rw [if_pos (by unfold inR; rw [decide_eq_true (by omega), decide_eq_true (by omega)]; rfl), show ((k : Int) + 1 - 1).toNat = k by omega]
  rfl
theorem rd_take (k : Nat) (hk : k ≤ 41) (i : Int) (h0 : 0 ≤ i) (h1 : i < k) : rdOf ByteArray.empty (names.take k) i = names.getD i.toNat ByteArray.empty := by
  unfold rdOf
  rw [List.getD_eq_getElem?_getD, List.getElem?_take_of_lt (by omega), ← List.getD_eq_getElem?_getD]
theorem apart_at (k : Nat) (hk : k < 41) (i : Int) (h0 : 0 ≤ i) (h1 : i < k) : ((names.getD i.toNat ByteArray.empty).toList == (names.getD k ByteArray.empty).toList) = false := by
  rw [ByteArray.toList_eq, ByteArray.toList_eq]
  have h := all_at (all_at names_apart k hk) i.toNat (by omega)
  simpa using h
attribute [local go_sem] max2_int min2_int max_two min_two max_three min_three max_four min_four
set_option maxRecDepth 100000 in
set_option maxHeartbeats 4000000 in
theorem all4 (w : World) (h : HT w) : Calls Tryd.prog 4 #[] w fun e w' => e = .returned (.bool true) ∧ Below w.heap.size w w' := by
  have H := Aside.mk h
  clear h
  go_enter Tryd.func4, Tryd.ntmps4
  go_wp2_with fail
  refine (awake7 _ H.out).mono ?_
  rintro e w1 ⟨rfl, hB1⟩
  have H1 := Aside.mk (H.out.below hB1)
  have HB1 := Aside.mk hB1
  clear hB1
  go_wp2_with fail
  go_loopg [1, 2] 41 (fun kq v1 v2 w' => ∃ (k : Nat), v2 = .int .i64 ((k : Int) + 1) ∧ Aside (k ≤ 41 ∧ kq + k = 41) ∧ Aside (Kd.string.R 9 w' w1.heap.size (fun _ => True) v1 (names.take k)) ∧ Aside (Below w1.heap.size w1 w'))
  case atStart => exact ⟨0, rfl, ⟨by omega, by omega⟩, ⟨Kd.R_nil _ _ _ _ _⟩, ⟨Below.refl _ _⟩⟩
  case round =>
    obtain ⟨k, rfl, HK, HR, HB⟩ := hrel
    have hK := HK.out
    obtain ⟨A8, c8, rfl⟩ := Kd.R_slice HR.out
    have hlen : (names.take k).length = k := by rw [List.length_take, names_len]; omega
    have HR1 := HR
    rw [hlen] at HR1 ⊢
    by_cases hk : k < 41
    · obtain ⟨k0, rfl⟩ : ∃ k0, gk = k0 + 1 := ⟨gk - 1, by omega⟩
      obtain ⟨nm, tk, gv, hrow⟩ := row_ok k hk
      have HW := Aside.mk hrow
      have hn1 : (k : Int) + 1 ≤ 41 := by omega
      have HL := Aside.mk hlen
      clear hlen hrow
      go_wp2_with fail
      refine (at11 ((k : Int) + 1) nm HW.out.en _ (H1.out.below HB.out)).mono ?_
      rintro e w2 ⟨rfl, hB2⟩
      have HB2 := Aside.mk (HB.out.trans (hB2.mono HB.out.size))
      have HC2 : Aside (Kd.string.C w2 A8 k (names.take k)) := ⟨by have := (Kd.R_reads' HR1.out).2.2; rw [HL.out] at this; exact Kd.C_below this hB2⟩
      have HR2 := Aside.mk (Kd.R_below HR1.out hB2)
      clear hB2
      go_wp2_with fail
      go_loopg [4] k (fun kq v4 w' => ∃ (i : Int), v4 = .int .i64 i ∧ Aside (0 ≤ i ∧ i ≤ k ∧ (kq : Int) + i = k) ∧ w' = w2)
      case atStart => exact ⟨0, rfl, ⟨by omega, by omega, by omega⟩, rfl⟩
      case round =>
        obtain ⟨i, rfl, HI, rfl⟩ := hrel
        have hI := HI.out
        by_cases hik : i < (k : Int)
        · obtain ⟨ad, rfl, hx⟩ := Kd.at_string HC2.out i hI.1 hik
          rw [rd_take k (by omega) i hI.1 hik] at hx
          obtain ⟨x, hxe⟩ : ∃ x, names.getD i.toNat ByteArray.empty = x := ⟨_, rfl⟩
          have hne := apart_at k hk i hI.1 hik
          rw [hxe, HW.out.en'] at hne
          rw [hxe] at hx
          clear hxe
          have hw1 : wrap64 (i + 1) = i + 1 := by unfold wrap64; omega
          have b0 := hI.1
          go_wp2
          obtain ⟨k1, rfl⟩ : ∃ k1, gk = k1 + 1 := ⟨gk - 1, by omega⟩
          go_roundg k1
          case measure => omega
          case rel => exact ⟨i + 1, rfl, ⟨by omega, by omega, by omega⟩, rfl⟩
        · have hi : i = (k : Int) := by omega
          subst hi
          have hne := HW.out.ne
          have t0 : decide (tk < 0) = false := decide_eq_false (by have := HW.out.t0; omega)
          have t3 : decide (3 < tk) = false := decide_eq_false (by have := HW.out.t3; omega)
          have g0 : decide (gv < 0) = false := decide_eq_false (by have := HW.out.g0; omega)
          have g2 : decide (2 < gv) = false := decide_eq_false (by have := HW.out.g2; omega)
          have hw1 : wrap64 ((k : Int) + 1 + 1) = (k : Int) + 1 + 1 := by unfold wrap64; omega
          go_wp2_with (first
            | ((with_reducible refine gate_dst (N := 30) rfl ?_); go_must (refine Kd.R_append_row Value.string ByteArray.empty (h1 := fun _ => rfl) (w0 := w1) w1.heap.size rfl (.tmp 27) (.tmp 29) 31 9 (.string ByteArray.empty) 16 rfl Tryd.underlying31 infoS rfl (by decide) (.slice A8 k c8) (names.take k) [nm] (some ⟨_, 0, none⟩) 1 1 (fun _ => True) rfl rfl (fun _ _ => trivial) (Kd.R_alloc HR2.out _) (oneS nm 9) (below_alloc HB2.out _) (by show _ ≤ (Array.push _ _).size; rw [Array.size_push]; exact Nat.le_succ_of_le HB2.out.size) (by rw [HL.out]; omega) ?_); intro v5 w5 hR5 hB5 _ _))
          have hB5' := Aside.mk hB5
          have hR5' := Aside.mk hR5
          clear hB5 hR5
          go_wp2_with fail
          refine (at12 ((k : Int) + 1) tk HW.out.et _).mono ?_
          rintro e w6 ⟨rfl, hB6⟩
          have HB6 := Aside.mk ((Below.refl w5.heap.size w5).trans (hB6.mono (Below.refl w5.heap.size w5).size))
          clear hB6
          go_wp2_with fail
          refine (at13 ((k : Int) + 1) gv HW.out.eg _).mono ?_
          rintro e w7 ⟨rfl, hB7⟩
          have HB7 := Aside.mk (HB6.out.trans (hB7.mono HB6.out.size))
          clear hB7
          go_wp2_with fail
          refine (at9 ((k : Int) + 1) 0 true HW.out.m0 _).mono ?_
          rintro e w8 ⟨rfl, hB8⟩
          have HB8 := Aside.mk (HB7.out.trans (hB8.mono HB7.out.size))
          clear hB8
          go_wp2_with fail
          refine (at9 ((k : Int) + 1) (-1) false HW.out.m1 _).mono ?_
          rintro e w9 ⟨rfl, hB9⟩
          have HB9 := Aside.mk (HB8.out.trans (hB9.mono HB8.out.size))
          clear hB9
          go_wp2_with fail
          refine (at9 ((k : Int) + 1) 65536 false HW.out.m6 _).mono ?_
          rintro e w10 ⟨rfl, hB10⟩
          have HB10 := Aside.mk (HB9.out.trans (hB10.mono HB9.out.size))
          clear hB10
          go_wp2
          go_roundg k0
          case measure => omega
          case rel => exact ⟨k + 1, by first | rfl | (simp; done) | (push_cast; rfl), ⟨by omega, by omega⟩, ⟨by rw [← take_snoc ByteArray.empty names k (by rw [names_len]; exact hk), HW.out.en']; exact Kd.R_below hR5'.out HB10.out⟩, ⟨hB5'.out.trans (HB10.out.mono hB5'.out.size)⟩⟩
    · obtain rfl : k = 41 := by omega
      clear hlen HR1
      go_wp2_with fail
      refine (at11 0 ⟨#[]⟩ (by kernel_rfl) _ (H1.out.below HB.out)).mono ?_
      rintro e w2 ⟨rfl, hB2⟩
      have HB2 := Aside.mk (HB.out.trans (hB2.mono HB.out.size))
      clear hB2
      go_wp2_with fail
      refine (at11 42 ⟨#[]⟩ (by kernel_rfl) _ (H1.out.below HB2.out)).mono ?_
      rintro e w3 ⟨rfl, hB3⟩
      have HB3 := Aside.mk (HB2.out.trans (hB3.mono HB2.out.size))
      clear hB3
      go_wp2_with fail
      refine (at12 0 (-1) (by kernel_rfl) _).mono ?_
      rintro e w4 ⟨rfl, hB4⟩
      have HB4 := Aside.mk (HB3.out.trans (hB4.mono HB3.out.size))
      clear hB4
      go_wp2_with fail
      refine (at13 42 (-1) (by kernel_rfl) _).mono ?_
      rintro e w5 ⟨rfl, hB5⟩
      have HB5 := Aside.mk (HB4.out.trans (hB5.mono HB4.out.size))
      clear hB5
      go_wp2_with fail
      refine (at9 42 0 false (by kernel_rfl) _).mono ?_
      rintro e w6 ⟨rfl, hB6⟩
      have HB6 := Aside.mk (HB5.out.trans (hB6.mono HB5.out.size))
      clear hB6
      go_wp2_with fail
      refine (at9 34 63 true (by kernel_rfl) _).mono ?_
      rintro e w7 ⟨rfl, hB7⟩
      have HB7 := Aside.mk (HB6.out.trans (hB7.mono HB6.out.size))
      clear hB7
      go_wp2_with fail
      refine (at9 34 64 false (by kernel_rfl) _).mono ?_
      rintro e w8 ⟨rfl, hB8⟩
      have HB8 := Aside.mk (HB7.out.trans (hB8.mono HB7.out.size))
      clear hB8
      go_wp2_with fail
      refine (at9 18 8 false (by kernel_rfl) _).mono ?_
      rintro e w9 ⟨rfl, hB9⟩
      have HB9 := Aside.mk (HB8.out.trans (hB9.mono HB8.out.size))
      clear hB9
      go_wp2_with fail
      refine (at9 2 1 false (by kernel_rfl) _).mono ?_
      rintro e w10 ⟨rfl, hB10⟩
      have HB10 := Aside.mk (HB9.out.trans (hB10.mono HB9.out.size))
      clear hB10
      go_wp2
      go_ret
      exact ⟨by simp, HB1.out.trans (HB10.out.mono HB1.out.size)⟩
end Go.Proofs.YtpkdmnjonfophaaDoor.I
