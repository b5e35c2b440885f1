/- The reference's NameMay, walked by hand: a name's parts, letter by letter. -/
import Derived.Test.YtmlnoapfhimgoaaProg
import Derived.Below
import Derived.Deep.Draws
import Derived.Deep.AppendLies
import Derived.Maps.AppendAt
import Derived.OwnWalk
import Derived.Laws.BytesArg
import Derived.Laws.MakeOwn
import Derived.Laws.OwnMore
import Derived.Deep.OwnRows
import Derived.Tactics
import Derived.Lib.ConvBytes
import Derived.Laws.Slices
import Derived.WalkKit
import Derived.WalkSpells
import Derived.KernelRfl
import Derived.RowKit3
import Derived.Deep.LoopGhost
import Derived.Deep.QuietTactic
import Derived.BigQuiet
import Derived.WideLaws
import Derived.Deep.DeepCutAuto
import Derived.Deep.CutBlock
import Derived.Deep.RegionHeld3
import Derived.Laws.Rows
import Derived.Lib.AppendStr
import Derived.ArgAppend
import Derived.Laws.IdiomCopy
import Derived.OrdersHeld
import Derived.Laws.BitsLemmas
import Derived.RowKit
import Derived.Test.YtmlnoapfhimgoaaWMore
import Derived.Test.YtmlnoapfhimgoaaWInvWords
import Derived.Test.YtmlnoapfhimgoaaWGuard
import Derived.Test.YtmlnoapfhimgoaaWNEv
import Derived.Test.YtmlnoapfhimgoaaWRepsOne
namespace Go.Proofs.Ytmlnoapfhimgoaa.G
set_option linter.unusedVariables false
set_option linter.unusedSimpArgs false
open Go.RowKit Go.Proofs.YtmlnoapfhimgoaaW.PrintWords Go.Proofs.YtmlnoapfhimgoaaW.PrintLast Go.Proofs.YtmlnoapfhimgoaaW.PrintMore
def letterB (c : Int) : Bool := (decide (97 ≤ c) && decide (c ≤ 122)) || (decide (48 ≤ c) && decide (c ≤ 57)) || c == 46 || c == 95
def scan (a : ByteArray) : Nat → Int → List ByteArray → Option (List ByteArray)
  | 0, _, ps => some ps
  | d + 1, i, ps => if bt a i = 47 then scan a d (i + 1) (ps ++ [(⟨#[]⟩ : ByteArray)]) else if letterB (bt a i) = true then scan a d (i + 1) (ps.set (ps.length - 1) (ps.getD (ps.length - 1) (⟨#[]⟩ : ByteArray) ++ strOfNums [bt a i])) else none
def goodP (p : ByteArray) : Bool := !(p.toList == ([] : List UInt8)) && !(p.toList == ([46] : List UInt8)) && !(p.toList == ([46, 46] : List UInt8))
def res : Option (List ByteArray) → Bool
  | none => false
  | some ps => ps.all goodP && decide (ps.length ≤ 2)
def mayB (a : ByteArray) : Bool := decide (1 ≤ a.size) && decide (a.size ≤ 8) && res (scan a a.size 0 [(⟨#[]⟩ : ByteArray)])
theorem all_not {ps : List ByteArray} {p : ByteArray} (h : p ∈ ps) (hp : goodP p = false) : ps.all goodP = false := by
  rw [List.all_eq_false]
  exact ⟨p, h, by rw [hp]; decide⟩
theorem one_str {w : World} (s : ByteArray) (e : TypeId) : Kd.string.C (w.alloc (.cells #[.string s] e)) (some ⟨w.heap.size, 0, none⟩) 1 [s] := by
  refine ⟨rfl, by omega, fun _ => ⟨_, rfl, fun j p hj => ?_⟩⟩
  cases j with
  | zero =>
    injection hj with hj
    subst hj
    refine ⟨[.string s], rfl, rfl, fun i u hu => ?_⟩
    cases i with
    | zero =>
      injection hu with hu
      subst hu
      show World.cell? _ ⟨w.heap.size, 0, none⟩ = _
      rw [World.cell?_alloc_mark]; rfl
    | succ i => simp at hu
  | succ j => simp at hj
theorem one_u8 {w : World} (c : Int) (e : TypeId) : (Kd.int .u8).C (w.alloc (.cells #[.int .u8 c] e)) (some ⟨w.heap.size, 0, none⟩) 1 [c] := by
  refine ⟨rfl, by omega, fun _ => ⟨_, rfl, fun j p hj => ?_⟩⟩
  cases j with
  | zero =>
    injection hj with hj
    subst hj
    refine ⟨[.int .u8 c], rfl, rfl, fun i u hu => ?_⟩
    cases i with
    | zero =>
      injection hu with hu
      subst hu
      show World.cell? _ ⟨w.heap.size, 0, none⟩ = _
      rw [World.cell?_alloc_mark]; rfl
    | succ i => simp at hu
  | succ j => simp at hj
theorem reps_str (W : World) (b : Nat) (ok : Nat → Prop) (s : ByteArray) : Reps (Kd.string.M W b ok) Kd.string.sz [s] [.string s] := Reps.one (show Kd.string.M W b ok s [.string s] from rfl) (Reps.none _ _)
theorem info9 : (Try.prog.info? 9).map (fun i => (i.zero, i.size, i.bytes)) = some (some (.string (⟨#[]⟩ : ByteArray)), 1, 16) := by kernel_rfl
set_option maxRecDepth 100000 in
set_option maxHeartbeats 8000000 in
theorem name_calls (a : ByteArray) (w : World) (h1 : 1 ≤ a.size) (h8 : a.size ≤ 8) (r : Bool) (hr : Aside0 (mayB a = r)) : Calls Try.prog 39 #[.string a] w fun e w' => e = .returned (.bool r) ∧ Below w.heap.size w w' := by
  have g1 : decide ((a.size : Int) < 1) = false := decide_eq_false (by omega)
  have g8 : decide ((8 : Int) < (a.size : Int)) = false := decide_eq_false (by omega)
  obtain ⟨X, hX⟩ : ∃ X, scan a a.size 0 [(⟨#[]⟩ : ByteArray)] = X := ⟨_, rfl⟩
  have hXA := Aside0.mk hX
  have hm : Aside0 (r = res X) := ⟨by rw [← hr.out, ← hX]; unfold mayB; rw [decide_eq_true h1, decide_eq_true h8]; rfl⟩
  clear hX hr
  go_enter Try.func39, Try.ntmps39
  go_wp2_with (first
    | ((with_reducible refine gate_dst (N := 15) rfl ?_); (refine Kd.R_lit Kd.string (w0 := w) w.heap.size 9 ?hg15 (N := 15) ?hd15 (xs := [(⟨#[]⟩ : ByteArray)]) (inner := [.string (⟨#[]⟩ : ByteArray)]) (ok := fun _ => True) (okp := fun _ => True) ?hr15 ?hp15 (fun _ hk => hk) trivial (Below.refl _ _) (Nat.le_refl _) (by simp) ?_); (case hd15 => rfl); (case hg15 => rfl); (case hr15 => first | (go_simp; done) | (go_simp; rfl)); (case hp15 => exact reps_str _ _ _ _); intro v1 w1 hR1 hB1 _ _))
  go_loopg [3, 4] a.size (fun kq v3 v4 w' => ∃ (i : Int) (ps : List ByteArray), v4 = .int .i64 i ∧ Aside0 (0 ≤ i ∧ (kq : Int) + i = a.size ∧ 1 ≤ ps.length ∧ (ps.length : Int) ≤ i + 1) ∧ Aside0 (Kd.string.R 9 w' w.heap.size (fun _ => True) v3 ps) ∧ Aside0 (scan a kq i ps = X) ∧ Aside0 (∀ p ∈ ps, (p.size : Int) ≤ i) ∧ Aside0 (Below w.heap.size w w'))
  case atStart => exact ⟨0, [(⟨#[]⟩ : ByteArray)], rfl, ⟨by simp⟩, ⟨hR1⟩, hXA, ⟨fun p hp => by obtain rfl := List.mem_singleton.1 hp; decide⟩, ⟨hB1⟩⟩
  case round =>
    clear hXA
    obtain ⟨i, ps, rfl, HI, HR, HS, HZ, HB⟩ := hrel
    have hI := HI.out
    have hw1 : wrap64 (i + 1) = i + 1 := by unfold wrap64; omega
    by_cases hin : i < (a.size : Int)
    · obtain ⟨k1, rfl⟩ : ∃ k1, gk = k1 + 1 := ⟨gk - 1, by omega⟩
      have hS := HS.out
      rw [scan] at hS
      have hbt := bt_at a i
      have p5 : 0 ≤ i := hI.1
      have q5 : i < (a.size : Int) := hin
      replace p5 := eq_true p5
      replace q5 := eq_true q5
      obtain ⟨c, hc⟩ : ∃ c, bt a i = c := ⟨_, rfl⟩
      have hcr := bt_range a i
      rw [hc] at hS hbt hcr
      have hRa := HR.out
      have hBa := HB.out
      obtain ⟨A3, c3, rfl⟩ := Kd.R_slice HR.out
      by_cases h47 : c = 47
      · subst h47
        rw [if_pos rfl] at hS
        have hS' := Aside0.mk hS
        clear hS
        go_wp2_with (first
          | ((with_reducible refine gate_dst (N := 30) rfl ?_); (refine Kd.R_append_row Value.string (⟨#[]⟩ : ByteArray) (h1 := fun _ => rfl) (w0 := w) w.heap.size rfl (.tmp 28) (.tmp 29) 87 9 (.string (⟨#[]⟩ : ByteArray)) 16 rfl Try.underlying87 info9 rfl (by decide) (.slice A3 ps.length c3) ps [(⟨#[]⟩ : ByteArray)] (some ⟨wr.heap.size, 0, none⟩) 1 1 (fun _ => True) rfl rfl (fun _ _ => trivial) (Kd.R_alloc hRa _) ?hC30 (hBa.alloc hBa.size _) (Nat.le_trans hBa.size (by show wr.heap.size ≤ (wr.heap.push _).size; rw [Array.size_push]; omega)) (by omega) ?_); (case hC30 => exact one_str _ 9); intro v5 w5 hR5 hB5 _ _))
        go_roundg k1
        case measure => omega
        case rel => exact ⟨i + 1, ps ++ [(⟨#[]⟩ : ByteArray)], rfl, ⟨by rw [List.length_append]; simp; omega⟩, ⟨hR5⟩, hS', ⟨fun p hp => by
          rcases List.mem_append.1 hp with hp | hp
          · have := HZ.out p hp; omega
          · obtain rfl := List.mem_singleton.1 hp; show (0 : Int) ≤ i + 1; omega⟩, ⟨hB5⟩⟩
      · rw [if_neg h47] at hS
        have hl1 : (1 : Int) ≤ ps.length := by omega
        obtain ⟨g, cap, he, -, -, -⟩ := Kd.R_form hRa (by omega)
        injection he with he1 he2 he3
        subst he1
        clear he2 he3
        obtain ⟨L, hL⟩ : ∃ L : Int, (ps.length : Int) - 1 = L := ⟨_, rfl⟩
        have hLw : wrap64 L = L := by unfold wrap64; omega
        have hLb : 0 ≤ L ∧ L < (ps.length : Int) := by omega
        have hLn : L.toNat = ps.length - 1 := by omega
        obtain ⟨x1, f1⟩ := Kd.R_celln (enc := Value.string) (h1 := fun _ => rfl) (⟨#[]⟩ : ByteArray) hRa L (by omega) (by omega)
        obtain ⟨s, hs⟩ : ∃ s, rdOf (⟨#[]⟩ : ByteArray) ps L = s := ⟨_, rfl⟩
        rw [hs] at x1
        have hs' : ps.getD (ps.length - 1) (⟨#[]⟩ : ByteArray) = s := by rw [← hs, ← hLn]; rfl
        rw [hs', ← hLn] at hS
        have hsz : (s.size : Int) ≤ i := by
          refine HZ.out s ?_
          rw [← hs', List.getD_eq_getElem?_getD, List.getElem?_eq_getElem (show ps.length - 1 < ps.length by omega)]
          exact List.getElem_mem _
        obtain ⟨u, hu⟩ : ∃ u, strOfNums [c] = u := ⟨_, rfl⟩
        have husz : u.size = 1 := by rw [← hu, strOfNums_size]; rfl
        have hcat : s.size + u.size ≤ 9223372036854775807 := by omega
        have hnew : Aside0 (((s ++ u).size : Int) ≤ i + 1) := ⟨by rw [ByteArray.size_append]; omega⟩
        clear husz
        rw [hu] at hS
        have hRp := Kd.R_putn (enc := Value.string) (h1 := fun _ => rfl) hRa L (s ++ u)
        have hgb : w.heap.size ≤ g := Kd.R_base hRa g rfl
        have hglt : g < wr.heap.size := Kd.R_lt hRa g rfl
        have hBp : Below w.heap.size w (wr.setCell ⟨g, L.toNat, none⟩ (.string (s ++ u))) := hBa.setCell (p := ⟨g, L.toNat, none⟩) hgb _
        have hcv : (convert 42 9 (.slice (some ⟨wr.heap.size, 0, none⟩) 1 1)).run Try.prog (wr.alloc (.cells #[.int .u8 c] 5)).drew = .ok (.string u) (wr.alloc (.cells #[.int .u8 c] 5)).drew := hu ▸ Kd.C_string (xs := [c]) Try.underlying42 Try.underlying5 Try.underlying9 (Kd.C_drew (one_u8 c 5))
        have x1a : ∀ o, (wr.alloc o).cell? ⟨g, L.toNat, none⟩ = some (.string s) := fun o => ((Below.refl wr.heap.size wr).alloc (Nat.le_refl _) o).cell hglt |>.trans x1
        have f1a : ∀ x t, (wr.alloc (.cells x t)).frozen? ⟨g, L.toNat, none⟩ = false := fun x t => (frozen?_alloc_cells wr x t _).trans f1
        rcases (show (97 ≤ c ∧ c ≤ 122) ∨ (48 ≤ c ∧ c ≤ 57) ∨ c = 46 ∨ c = 95 ∨ (122 < c) ∨ (57 < c ∧ c < 97 ∧ c ≠ 95) ∨ (c < 48 ∧ c ≠ 46) by omega) with hc1 | hc1 | hc1 | hc1 | hc1 | hc1 | hc1
        · have hlet : letterB c = true := by simp [letterB]; omega
          rw [if_pos hlet] at hS
          have hS' := Aside0.mk hS
          clear hS hs hs' hlet hLn hu
          have e47 : (c == 47) = false := beq_eq_false_iff_ne.mpr h47
          have b0 : decide (97 ≤ c) = true := decide_eq_true (by omega)
          have b1 : decide (c ≤ 122) = true := decide_eq_true (by omega)
          go_wp2
          go_region
          all_goals go_wp2
          go_roundg k1
          case measure => omega
          case rel => exact ⟨i + 1, ps.set L.toNat (s ++ u), rfl, ⟨by rw [List.length_set]; omega⟩, ⟨Kd.R_drew (Kd.R_alloc hRp _)⟩, hS', ⟨fun p hp => by
            rcases List.mem_or_eq_of_mem_set hp with hp | hp
            · have := HZ.out p hp; omega
            · rw [hp]; exact hnew.out⟩, ⟨pw_below_drewN (hBp.alloc hBp.size _) 1⟩⟩
        · have hlet : letterB c = true := by simp [letterB]; omega
          rw [if_pos hlet] at hS
          have hS' := Aside0.mk hS
          clear hS hs hs' hlet hLn hu
          have e47 : (c == 47) = false := beq_eq_false_iff_ne.mpr h47
          have b0 : decide (97 ≤ c) = false := decide_eq_false (by omega)
          have b1 : decide (48 ≤ c) = true := decide_eq_true (by omega)
          have b2 : decide (c ≤ 57) = true := decide_eq_true (by omega)
          go_wp2
          go_region
          all_goals go_wp2
          go_roundg k1
          case measure => omega
          case rel => exact ⟨i + 1, ps.set L.toNat (s ++ u), rfl, ⟨by rw [List.length_set]; omega⟩, ⟨Kd.R_drew (Kd.R_alloc hRp _)⟩, hS', ⟨fun p hp => by
            rcases List.mem_or_eq_of_mem_set hp with hp | hp
            · have := HZ.out p hp; omega
            · rw [hp]; exact hnew.out⟩, ⟨pw_below_drewN (hBp.alloc hBp.size _) 1⟩⟩
        · subst hc1
          rw [if_pos (by decide)] at hS
          have hS' := Aside0.mk hS
          clear hS hs hs' hLn hu
          go_wp2
          go_region
          all_goals go_wp2
          go_roundg k1
          case measure => omega
          case rel => exact ⟨i + 1, ps.set L.toNat (s ++ u), rfl, ⟨by rw [List.length_set]; omega⟩, ⟨Kd.R_drew (Kd.R_alloc hRp _)⟩, hS', ⟨fun p hp => by
            rcases List.mem_or_eq_of_mem_set hp with hp | hp
            · have := HZ.out p hp; omega
            · rw [hp]; exact hnew.out⟩, ⟨pw_below_drewN (hBp.alloc hBp.size _) 1⟩⟩
        · subst hc1
          rw [if_pos (by decide)] at hS
          have hS' := Aside0.mk hS
          clear hS hs hs' hLn hu
          go_wp2
          go_region
          all_goals go_wp2
          go_roundg k1
          case measure => omega
          case rel => exact ⟨i + 1, ps.set L.toNat (s ++ u), rfl, ⟨by rw [List.length_set]; omega⟩, ⟨Kd.R_drew (Kd.R_alloc hRp _)⟩, hS', ⟨fun p hp => by
            rcases List.mem_or_eq_of_mem_set hp with hp | hp
            · have := HZ.out p hp; omega
            · rw [hp]; exact hnew.out⟩, ⟨pw_below_drewN (hBp.alloc hBp.size _) 1⟩⟩
        · have hlet : letterB c = false := by simp [letterB]; omega
          rw [if_neg (by rw [hlet]; decide)] at hS
          have hr0 : r = false := by rw [hm.out, ← hS]; rfl
          clear hS hs hs' hlet hLn hu
          have e47 : (c == 47) = false := beq_eq_false_iff_ne.mpr h47
          have b0 : decide (97 ≤ c) = true := decide_eq_true (by omega)
          have b1 : decide (c ≤ 122) = false := decide_eq_false (by omega)
          have b2 : decide (48 ≤ c) = true := decide_eq_true (by omega)
          have b3 : decide (c ≤ 57) = false := decide_eq_false (by omega)
          have b4 : (c == 46) = false := beq_eq_false_iff_ne.mpr (by omega)
          have b5 : (c == 95) = false := beq_eq_false_iff_ne.mpr (by omega)
          go_wp2
          go_ret
          exact ⟨by subst hr0; rfl, hBa⟩
        · have hlet : letterB c = false := by simp [letterB]; omega
          rw [if_neg (by rw [hlet]; decide)] at hS
          have hr0 : r = false := by rw [hm.out, ← hS]; rfl
          clear hS hs hs' hlet hLn hu
          have e47 : (c == 47) = false := beq_eq_false_iff_ne.mpr h47
          have b0 : decide (97 ≤ c) = false := decide_eq_false (by omega)
          have b1 : decide (48 ≤ c) = true := decide_eq_true (by omega)
          have b2 : decide (c ≤ 57) = false := decide_eq_false (by omega)
          have b3 : (c == 46) = false := beq_eq_false_iff_ne.mpr (by omega)
          have b4 : (c == 95) = false := beq_eq_false_iff_ne.mpr (by omega)
          go_wp2
          go_ret
          exact ⟨by subst hr0; rfl, hBa⟩
        · have hlet : letterB c = false := by simp [letterB]; omega
          rw [if_neg (by rw [hlet]; decide)] at hS
          have hr0 : r = false := by rw [hm.out, ← hS]; rfl
          clear hS hs hs' hlet hLn hu
          have e47 : (c == 47) = false := beq_eq_false_iff_ne.mpr h47
          have b0 : decide (97 ≤ c) = false := decide_eq_false (by omega)
          have b1 : decide (48 ≤ c) = false := decide_eq_false (by omega)
          have b2 : (c == 46) = false := beq_eq_false_iff_ne.mpr (by omega)
          have b3 : (c == 95) = false := beq_eq_false_iff_ne.mpr (by omega)
          go_wp2
          go_ret
          exact ⟨by subst hr0; rfl, hBa⟩
    · obtain rfl : gk = 0 := by omega
      have hS := HS.out
      rw [scan] at hS
      have hr1 : r = (ps.all goodP && decide (ps.length ≤ 2)) := by rw [hm.out, ← hS]; rfl
      have hr1A := Aside0.mk hr1
      have hRa := HR.out
      have hBa := HB.out
      clear hS hr1
      obtain ⟨g, cap, he, -, -, -⟩ := Kd.R_form hRa (by omega)
      subst he
      go_wp2
      go_loopg [6] ps.length (fun kq v6 w' => ∃ (j : Int), v6 = .int .i64 j ∧ Aside0 (0 ≤ j ∧ (kq : Int) + j = ps.length) ∧ Aside0 ((ps.take j.toNat).all goodP = true) ∧ w' = wr)
      case atStart => exact ⟨0, rfl, ⟨by omega⟩, ⟨rfl⟩, rfl⟩
      case round =>
        obtain ⟨j, rfl, HJ, HG, rfl⟩ := hrel
        have hJ := HJ.out
        have hw2 : wrap64 (j + 1) = j + 1 := by unfold wrap64; omega
        by_cases hjl : j < (ps.length : Int)
        · obtain ⟨x1, -⟩ := Kd.R_celln (enc := Value.string) (h1 := fun _ => rfl) (⟨#[]⟩ : ByteArray) hRa j (by omega) (by omega)
          obtain ⟨p, hp⟩ : ∃ p, rdOf (⟨#[]⟩ : ByteArray) ps j = p := ⟨_, rfl⟩
          rw [hp] at x1
          have hjb : 0 ≤ j ∧ j < (ps.length : Int) := ⟨by omega, hjl⟩
          have hpe : ps[j.toNat]'(by omega) = p := by
            rw [← hp]; unfold rdOf
            rw [List.getD_eq_getElem?_getD, List.getElem?_eq_getElem (show j.toNat < ps.length by omega)]; rfl
          have hpm : p ∈ ps := by rw [← hpe]; exact List.getElem_mem _
          have hnx : goodP p = true → (ps.take (j + 1).toNat).all goodP = true := fun hg => by
            rw [show (j + 1).toNat = j.toNat + 1 by omega, List.take_add_one, List.getElem?_eq_getElem (show j.toNat < ps.length by omega), hpe, List.all_append, HG.out]
            simp [hg]
          have hnxA := Aside0.mk hnx
          have hpmA := Aside0.mk hpm
          clear hnx hpe hpm hp
          cases q1 : (p.toList == ([] : List UInt8))
          · cases q2 : (p.toList == ([46] : List UInt8))
            · cases q3 : (p.toList == ([46, 46] : List UInt8))
              · have hg : Aside0 (goodP p = true) := ⟨by unfold goodP; rw [q1, q2, q3]; rfl⟩
                go_wp2
                obtain ⟨k1, rfl⟩ : ∃ k1, gk = k1 + 1 := ⟨gk - 1, by omega⟩
                go_roundg k1
                case measure => omega
                case rel => exact ⟨j + 1, rfl, ⟨by omega⟩, ⟨hnxA.out hg.out⟩, rfl⟩
              · have hr0 : Aside0 (r = false) := ⟨by rw [hr1A.out, all_not hpmA.out (by unfold goodP; rw [q1, q2, q3]; rfl)]; rfl⟩
                go_wp2
                go_ret
                exact ⟨by rw [hr0.out]; rfl, hBa⟩
            · have hr0 : Aside0 (r = false) := ⟨by rw [hr1A.out, all_not hpmA.out (by unfold goodP; rw [q1, q2]; rfl)]; rfl⟩
              go_wp2
              go_ret
              exact ⟨by rw [hr0.out]; rfl, hBa⟩
          · have hr0 : Aside0 (r = false) := ⟨by rw [hr1A.out, all_not hpmA.out (by unfold goodP; rw [q1]; rfl)]; rfl⟩
            go_wp2
            go_ret
            exact ⟨by rw [hr0.out]; rfl, hBa⟩
        · have hr2 : Aside0 (r = decide ((ps.length : Int) ≤ 2)) := ⟨by
            have := HG.out
            rw [List.take_of_length_le (by omega)] at this
            rw [hr1A.out, this, Bool.true_and]
            exact decide_eq_decide.2 (by omega)⟩
          go_wp2
          go_ret
          exact ⟨by rw [hr2.out]; rfl, hBa⟩
theorem ref_NameMay_short (a : ByteArray) (w : World) (h : ¬ (1 ≤ a.size ∧ a.size ≤ 8)) : Calls Try.prog 39 #[.string a] w fun e w' => e = .returned (.bool (mayB a)) ∧ Below w.heap.size w w' := by
  have hr : mayB a = false := by
    unfold mayB
    by_cases h1 : 1 ≤ a.size
    · rw [decide_eq_true h1, decide_eq_false (show ¬ a.size ≤ 8 by omega)]; rfl
    · rw [decide_eq_false h1]; rfl
  rw [hr]
  clear hr
  by_cases h1 : a.size < 1
  · have g1 : decide ((a.size : Int) < 1) = true := decide_eq_true (by omega)
    go_enter Try.func39, Try.ntmps39
    go_wp2
    go_ret
    exact ⟨rfl, Below.refl _ _⟩
  · have g1 : decide ((a.size : Int) < 1) = false := decide_eq_false (by omega)
    have g8 : decide ((8 : Int) < (a.size : Int)) = true := decide_eq_true (by omega)
    go_enter Try.func39, Try.ntmps39
    go_wp2
    go_ret
    exact ⟨rfl, Below.refl _ _⟩
def crossroadsref12_NameMay.f (a0 : ByteArray) : Option Bool := some (mayB a0)
theorem crossroadsref12_NameMay.calls (a0 : ByteArray) (r : Bool) (w : World) (h : crossroadsref12_NameMay.f a0 = some r) :
    Calls Try.prog 39 #[.string a0] w fun e w' => e = .returned (.bool r) ∧ Below w.heap.size w w' := by
  injection h with h
  by_cases hs : 1 ≤ a0.size ∧ a0.size ≤ 8
  · exact name_calls a0 w hs.1 hs.2 r ⟨h⟩
  · rw [← h]; exact ref_NameMay_short a0 w hs
end Go.Proofs.Ytmlnoapfhimgoaa.G
