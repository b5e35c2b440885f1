/- FailsApart: two that are asked by turns go each their own way. -/
import Derived.Test.YtpjnacblaipljaaFailsGo
namespace Go.Proofs.Ytpjnacblaipljaa.Fails
set_option linter.unusedVariables false
set_option linter.unusedSimpArgs false
open Go.RowKit Go.Proofs.YtpjnacblaipljaaW.PrintWords Go.Proofs.YtpjnacblaipljaaW.PrintLast Go.Proofs.YtpjnacblaipljaaW.PrintMore
attribute [local go_sem] max2_int min2_int max_two min_two max_three min_three max_four min_four
/-- The lesser of an index and a length. -/
def cut (l : List Bool) (i : Int) : Int := if (l.length : Int) < i then (l.length : Int) else i
theorem cut_in {l : List Bool} {i : Int} (h : i ≤ l.length) : cut l i = i := if_neg (by omega)
theorem cut_out {l : List Bool} {i : Int} (h : (l.length : Int) ≤ i) : cut l i = l.length := by
  unfold cut; split <;> omega
/-- What the next call answers, wherever it stands; what it leaves. -/
theorem next_any (w : World) (base g : Nat) (v : Value) (l : List Bool) (i : Int) (h : F w base g v l (cut l i)) (i0 : 0 ≤ i) (i1 : i ≤ 400) (x : Bool) (hx : (decide (i < (l.length : Int)) && l.getD i.toNat false) = x) :
    Calls Try.prog 14 #[.pointer (some ⟨g, 0, none⟩)] w fun e w' => e = .returned (.bool x) ∧ F w' base g v l (cut l (i + 1)) ∧
      (∀ base' g' v' l' k', g' ≠ g → F w base' g' v' l' k' → F w' base' g' v' l' k') ∧ (∀ b W, b ≤ base → Below b W w → Below b W w') := by
  subst hx
  by_cases hil : i < (l.length : Int)
  · rw [cut_in (by omega)] at h
    have hw1 : wrap64 (i + 1) = i + 1 := by unfold wrap64; omega
    refine (next_more w base g v l i h i0 hil hw1).mono ?_
    rintro e w3 ⟨rfl, ⟨n, rfl⟩⟩
    refine ⟨by rw [decide_eq_true hil, Bool.true_and], ?_, ?_, ?_⟩
    · rw [cut_in (by omega)]; exact F_drewN (F_step h (i + 1)) n
    · intro base' g' v' l' k' hn h'
      exact F_drewN (F_other h h' hn _) n
    · intro b W hb hB
      exact pw_below_drewN (hB.setCell (p := ⟨g, 1, none⟩) (Nat.le_trans hb h.2.1) _) n
  · rw [cut_out (by omega)] at h
    refine (next_end w base g v l h).mono ?_
    rintro e w3 ⟨rfl, ⟨n, rfl⟩⟩
    refine ⟨by rw [decide_eq_false hil, Bool.false_and], ?_, ?_, ?_⟩
    · rw [cut_out (by omega)]; exact F_drewN h n
    · intro base' g' v' l' k' hn h'
      exact F_drewN h' n
    · intro b W hb hB
      exact pw_below_drewN hB n
theorem at_cell {w : World} {ad : Addr} {l : List Bool} (h : Kd.C Kd.bool w (some ad) l.length l) (i : Int) (i0 : 0 ≤ i) (i1 : i < (l.length : Int)) : w.cell? (ad.add i.toNat) = some (.bool (rdOf false l i)) := by
  obtain ⟨a, ha, hx⟩ := Kd.at_bool h i i0 i1
  injection ha with ha
  subst ha
  exact hx
set_option maxRecDepth 100000 in
set_option maxHeartbeats 8000000 in
theorem apart_calls (w : World) (A B T : Option Addr) (ca cb ct : Nat) (la lb lt : List Bool) (ha : Kd.C Kd.bool w A la.length la) (hca : la.length ≤ ca) (hla : la.length ≤ 100)
    (hb : Kd.C Kd.bool w B lb.length lb) (hcb : lb.length ≤ cb) (hlb : lb.length ≤ 100) (ht : Kd.C Kd.bool w T lt.length lt) (hct : lt.length ≤ ct) (hlt : lt.length ≤ 300) :
    Calls Try.prog 5 #[.slice A la.length ca, .slice B lb.length cb, .slice T lt.length ct] w fun e w' => e = .returned (.bool true) ∧ Below w.heap.size w w' := by
  have ga : decide ((100 : Int) < (la.length : Int)) = false := decide_eq_false (by omega)
  have gb : decide ((100 : Int) < (lb.length : Int)) = false := decide_eq_false (by omega)
  have gt : decide ((300 : Int) < (lt.length : Int)) = false := decide_eq_false (by omega)
  go_enter Try.func5, Try.ntmps5
  go_wp2_with (first
    | (go_at_call 12; go_must (refine (awake_calls _).mono ?_); rintro e w1 ⟨rfl, hB1⟩)
    | (go_at_call 13; first
        | (refine (new_calls A ca la _ (Kd.C_below ha hB1) hca (by omega)).mono ?_; rintro e w2 ⟨gf, vf, rfl, hF, hB2⟩)
        | (refine (new_calls B cb lb _ (Kd.C_below hb (hB1.trans (hB2.mono hB1.size))) hcb (by omega)).mono ?_; rintro e w3 ⟨gg, vg, rfl, hG, hB3⟩)))
  have hne : gg ≠ gf := by have := lt_of_block hF.1; have := hG.2.1; omega
  have hF3 := F_below hF hB3
  have hBw : ∀ wr, Below w1.heap.size w1 wr → Below w.heap.size w wr := fun wr h => hB1.trans (h.mono hB1.size)
  have hB13 : Below w1.heap.size w1 w3 := hB2.trans (hB3.mono hB2.size)
  have h12 : w1.heap.size ≤ w2.heap.size := hB2.size
  go_loopg [9, 10, 11] lt.length (fun kq v9 v10 v11 w' => ∃ i k : Int, v9 = .int .i64 i ∧ v10 = .int .i64 k ∧ v11 = .int .i64 (i + k) ∧ Aside0 (0 ≤ i ∧ 0 ≤ k ∧ i + k ≤ (lt.length : Int) ∧ (kq : Int) + (i + k) = lt.length) ∧
    Aside0 (F w' w1.heap.size gf vf la (cut la i)) ∧ Aside0 (F w' w2.heap.size gg vg lb (cut lb k)) ∧ Aside0 (Below w1.heap.size w1 w'))
  case atStart => exact ⟨0, 0, rfl, rfl, rfl, ⟨by omega⟩, ⟨by rw [cut_in (by omega)]; exact hF3⟩, ⟨by rw [cut_in (by omega)]; exact hG⟩, ⟨hB13⟩⟩
  case round =>
    obtain ⟨i, k, rfl, rfl, rfl, HI, HF, HG, HB⟩ := hrel
    have hI := HI.out
    have hFi := HF.out
    have hGk := HG.out
    have hBB := HB.out
    have hw1 : wrap64 (i + 1) = i + 1 := by unfold wrap64; omega
    have hw2 : wrap64 (k + 1) = k + 1 := by unfold wrap64; omega
    have hw3 : wrap64 (i + k + 1) = i + k + 1 := by unfold wrap64; omega
    by_cases hin : i + k < (lt.length : Int)
    · have hCt : Kd.C Kd.bool wr T lt.length lt := Kd.C_below ht (hBw wr hBB)
      obtain ⟨ad, rfl, hx⟩ := Kd.at_bool hCt (i + k) (by omega) hin
      have hik : (0 : Int) ≤ i + k ∧ i + k < (lt.length : Int) := ⟨by omega, hin⟩
      obtain ⟨x, hxx⟩ : ∃ x, x = rdOf false lt (i + k) := ⟨_, rfl⟩
      rw [← hxx] at hx
      clear hxx
      cases x
      · by_cases hil : k < (lb.length : Int)
        · have hCa : Kd.C Kd.bool wr B lb.length lb := Kd.C_below hb (hBw wr hBB)
          obtain ⟨ad2, rfl, hy0⟩ := Kd.at_bool hCa k (by omega) hil
          obtain ⟨y, hyy⟩ : ∃ y, y = rdOf false lb k := ⟨_, rfl⟩
          have hii : 0 ≤ k ∧ k < (lb.length : Int) := ⟨by omega, hil⟩
          have hans : (decide (k < (lb.length : Int)) && lb.getD k.toNat false) = y := by rw [decide_eq_true hil, Bool.true_and, hyy]; rfl
          have hdec : decide (k < (lb.length : Int)) = true := decide_eq_true hil
          go_wp2_with (go_at_call 14; refine (next_any _ _ gg vg lb k (by first | exact hGk | exact F_drewN hGk _) hI.2.1 (by omega) y hans).mono ?_; rintro e w4 ⟨rfl, hF4, hoth, hbel⟩; have hG2 := hoth _ _ _ _ _ hne.symm hFi; have hB4 := hbel w1.heap.size w1 h12 hBB; have hy := at_cell (Kd.C_below hb (hBw w4 hB4)) k hii.1 hii.2; rw [← hyy] at hy)
          obtain ⟨k1, rfl⟩ : ∃ k1, gk = k1 + 1 := ⟨gk - 1, by omega⟩
          go_roundg k1
          case measure => omega
          case rel => exact ⟨i, k + 1, rfl, by first | rfl | (simp; done), by rw [show i + (k + 1) = i + k + 1 by omega], ⟨by omega⟩, ⟨hG2⟩, ⟨hF4⟩, ⟨hB4⟩⟩
        · have hans : (decide (k < (lb.length : Int)) && lb.getD k.toNat false) = false := by rw [decide_eq_false hil, Bool.false_and]
          have hdec : decide (k < (lb.length : Int)) = false := decide_eq_false hil
          go_wp2_with (go_at_call 14; refine (next_any _ _ gg vg lb k (by first | exact hGk | exact F_drewN hGk _) hI.2.1 (by omega) false hans).mono ?_; rintro e w4 ⟨rfl, hF4, hoth, hbel⟩; have hG2 := hoth _ _ _ _ _ hne.symm hFi; have hB4 := hbel w1.heap.size w1 h12 hBB)
          obtain ⟨k1, rfl⟩ : ∃ k1, gk = k1 + 1 := ⟨gk - 1, by omega⟩
          go_roundg k1
          case measure => omega
          case rel => exact ⟨i, k + 1, rfl, by first | rfl | (simp; done), by rw [show i + (k + 1) = i + k + 1 by omega], ⟨by omega⟩, ⟨hG2⟩, ⟨hF4⟩, ⟨hB4⟩⟩
      · by_cases hil : i < (la.length : Int)
        · have hCa : Kd.C Kd.bool wr A la.length la := Kd.C_below ha (hBw wr hBB)
          obtain ⟨ad2, rfl, hy0⟩ := Kd.at_bool hCa i (by omega) hil
          obtain ⟨y, hyy⟩ : ∃ y, y = rdOf false la i := ⟨_, rfl⟩
          have hii : 0 ≤ i ∧ i < (la.length : Int) := ⟨by omega, hil⟩
          have hans : (decide (i < (la.length : Int)) && la.getD i.toNat false) = y := by rw [decide_eq_true hil, Bool.true_and, hyy]; rfl
          have hdec : decide (i < (la.length : Int)) = true := decide_eq_true hil
          go_wp2_with (go_at_call 14; refine (next_any _ _ gf vf la i (by first | exact hFi | exact F_drewN hFi _) hI.1 (by omega) y hans).mono ?_; rintro e w4 ⟨rfl, hF4, hoth, hbel⟩; have hG2 := hoth _ _ _ _ _ hne hGk; have hB4 := hbel w1.heap.size w1 (Nat.le_refl _) hBB; have hy := at_cell (Kd.C_below ha (hBw w4 hB4)) i hii.1 hii.2; rw [← hyy] at hy)
          obtain ⟨k1, rfl⟩ : ∃ k1, gk = k1 + 1 := ⟨gk - 1, by omega⟩
          go_roundg k1
          case measure => omega
          case rel => exact ⟨i + 1, k, by first | rfl | (simp; done), rfl, by rw [show i + 1 + k = i + k + 1 by omega], ⟨by omega⟩, ⟨hF4⟩, ⟨hG2⟩, ⟨hB4⟩⟩
        · have hans : (decide (i < (la.length : Int)) && la.getD i.toNat false) = false := by rw [decide_eq_false hil, Bool.false_and]
          have hdec : decide (i < (la.length : Int)) = false := decide_eq_false hil
          go_wp2_with (go_at_call 14; refine (next_any _ _ gf vf la i (by first | exact hFi | exact F_drewN hFi _) hI.1 (by omega) false hans).mono ?_; rintro e w4 ⟨rfl, hF4, hoth, hbel⟩; have hG2 := hoth _ _ _ _ _ hne hGk; have hB4 := hbel w1.heap.size w1 (Nat.le_refl _) hBB)
          obtain ⟨k1, rfl⟩ : ∃ k1, gk = k1 + 1 := ⟨gk - 1, by omega⟩
          go_roundg k1
          case measure => omega
          case rel => exact ⟨i + 1, k, by first | rfl | (simp; done), rfl, by rw [show i + 1 + k = i + k + 1 by omega], ⟨by omega⟩, ⟨hF4⟩, ⟨hG2⟩, ⟨hB4⟩⟩
    · by_cases hmi : (la.length : Int) < i <;> by_cases hmk : (lb.length : Int) < k
      all_goals
        first
          | (rw [cut_out (l := la) (by omega)] at hFi)
          | (rw [cut_in (l := la) (by omega)] at hFi)
        first
          | (rw [cut_out (l := lb) (by omega)] at hGk)
          | (rw [cut_in (l := lb) (by omega)] at hGk)
        go_wp2_with (first
          | (go_at_call 15; refine (used_calls _ _ gf vf la _ (by first | exact hFi | exact F_drewN hFi _)).mono ?_; rintro e w3 ⟨rfl, ⟨n3, rfl⟩⟩)
          | (go_at_call 15; refine (used_calls _ _ gg vg lb _ (by first | exact hGk | exact F_drewN hGk _)).mono ?_; rintro e w5 ⟨rfl, ⟨n5, rfl⟩⟩))
        go_ret
        exact ⟨by first | rfl | (simp; done), pw_below_drewN (hBw _ hBB) _⟩
set_option maxRecDepth 100000 in
set_option maxHeartbeats 4000000 in
theorem apart_long (w : World) (A B T : Option Addr) (ca cb ct : Nat) (la lb lt : List Bool) (h : ¬ (la.length ≤ 100 ∧ lb.length ≤ 100 ∧ lt.length ≤ 300)) :
    Calls Try.prog 5 #[.slice A la.length ca, .slice B lb.length cb, .slice T lt.length ct] w fun e w' => e = .returned (.bool true) ∧ Below w.heap.size w w' := by
  by_cases ha : la.length ≤ 100 <;> by_cases hb : lb.length ≤ 100 <;> by_cases ht : lt.length ≤ 300
  · exact absurd ⟨ha, hb, ht⟩ h
  all_goals
    first | have ga : decide ((100 : Int) < (la.length : Int)) = false := decide_eq_false (by omega) | have ga : decide ((100 : Int) < (la.length : Int)) = true := decide_eq_true (by omega)
    first | have gb : decide ((100 : Int) < (lb.length : Int)) = false := decide_eq_false (by omega) | have gb : decide ((100 : Int) < (lb.length : Int)) = true := decide_eq_true (by omega)
    first | have gt : decide ((300 : Int) < (lt.length : Int)) = false := decide_eq_false (by omega) | have gt : decide ((300 : Int) < (lt.length : Int)) = true := decide_eq_true (by omega)
    go_enter Try.func5, Try.ntmps5
    go_wp2_with (go_at_call 12; go_must (refine (awake_calls _).mono ?_); rintro e w1 ⟨rfl, hB1⟩)
    go_ret
    exact ⟨by first | rfl | (simp; done), hB1⟩
end Go.Proofs.Ytpjnacblaipljaa.Fails
