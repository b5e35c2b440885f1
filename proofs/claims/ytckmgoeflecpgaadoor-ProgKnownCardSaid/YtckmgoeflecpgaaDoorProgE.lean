/- prog.Bytes and Small: what the printed functions answer. -/
import Derived.Test.YtckmgoeflecpgaaDoorProgM
namespace Go.Proofs.YtckmgoeflecpgaaDoor.L
set_option linter.unusedVariables false
set_option linter.unusedSimpArgs false
open Go.RowKit Go.Proofs.YtckmgoeflecpgaaDoor.I Go.Proofs.YtckmgoeflecpgaaDoor.G Go.Proofs.YtckmgoeflecpgaaDoor.P Go.Proofs.YtckmgoeflecpgaaDoorW.PrintWords Go.Proofs.YtckmgoeflecpgaaDoorW.PrintLast Go.Proofs.YtckmgoeflecpgaaDoorW.PrintMore
theorem drop_at {α : Type} {l d : List α} {x : α} {i : Nat} (h : l.drop i = x :: d) : ∃ hlt : i < l.length, l[i] = x ∧ l.drop (i + 1) = d := by
  have hlt : i < l.length := by
    rcases Nat.lt_or_ge i l.length with h' | h'
    · exact h'
    · rw [List.drop_eq_nil_iff.2 h'] at h; cases h
  rw [List.drop_eq_getElem_cons hlt] at h
  injection h with h1 h2
  exact ⟨hlt, h1, h2⟩
theorem rd41 {l d : List S41} {x : S41} {i : Nat} (h : l.drop i = x :: d) : rd_T41 l (i : Int) = x := by
  obtain ⟨hlt, h1, _⟩ := drop_at h
  unfold rd_T41
  rw [Int.toNat_natCast, List.getD_eq_getElem?_getD, List.getElem?_eq_getElem hlt]
  exact h1
theorem rdS {l d : List ByteArray} {x : ByteArray} {i : Nat} (h : l.drop i = x :: d) : rdOf ByteArray.empty l (i : Int) = x := by
  obtain ⟨hlt, h1, _⟩ := drop_at h
  unfold rdOf
  rw [Int.toNat_natCast, List.getD_eq_getElem?_getD, List.getElem?_eq_getElem hlt]
  exact h1
theorem w1 {i n : Nat} (h : i ≤ n) (hn : n ≤ 4611686018427387904) : wrap64 ((i : Int) + 1) = ((i + 1 : Nat) : Int) := by unfold wrap64; omega
theorem bytes_l1 (L : List S41) (hL : L.length ≤ 96) : ∀ (d : List S41) (i : Nat) (x : List Int), L.drop i = d → i ≤ L.length → x.length ≤ 1000000 + 3 * i → Ev (fun k => prog_Bytes.l1 k x L (L.length : Int) (i : Int)) (x ++ d.flatMap ib, 0)
  | [], i, x, hd, hi, hx => by
    have h1 : L.length ≤ i := List.drop_eq_nil_iff.1 hd
    refine Ev.step (f := fun _ => some (x, 0)) (fun k => ?_) (by rw [List.flatMap_nil, List.append_nil]; exact Ev.now _)
    rw [prog_Bytes.l1, if_neg (by omega)]
  | y :: d, i, x, hd, hi, hx => by
    obtain ⟨hlt, _, hd2⟩ := drop_at hd
    have hr := rd41 hd
    have ih := bytes_l1 L hL d (i + 1) (x ++ ib y) hd2 (by omega) (by rw [List.length_append, show (ib y).length = 3 from rfl]; omega)
    rw [List.append_assoc] at ih
    refine Ev.step (f := fun k => prog_Bytes.l1 k (x ++ ib y) L (L.length : Int) ((i + 1 : Nat) : Int)) (fun k => ?_) ih
    rw [prog_Bytes.l1, if_pos (by omega), if_pos (by omega), if_pos (by omega), hr, Option.bind_some, if_pos (by rw [show ([y.f0 % 256, y.f1 / 256 % 256, y.f1 % 256] : List Int).length = 3 from rfl]; omega), w1 (n := 100) (by omega) (by omega)]
    rfl
theorem bytes_l0 (L : List S41) (N : List ByteArray) (hL : L.length ≤ 96) (hN : N.length ≤ 8) (hs : ∀ s ∈ N, s.size ≤ 255) : ∀ (d : List ByteArray) (i : Nat) (x : List Int), N.drop i = d → i ≤ N.length → x.length ≤ 3 + 256 * i → Ev (fun k => prog_Bytes.l0 k x N (N.length : Int) (i : Int) L N) (x ++ (d.flatMap nb ++ ([(L.length : Int) % 256] ++ L.flatMap ib)), 0)
  | [], i, x, hd, hi, hx => by
    have h1 : N.length ≤ i := List.drop_eq_nil_iff.1 hd
    have := bytes_l1 L hL L 0 (x ++ [(L.length : Int) % 256]) rfl (Nat.zero_le _) (by rw [List.length_append, List.length_singleton]; omega)
    rw [List.append_assoc] at this
    refine Ev.step (f := fun k => prog_Bytes.l1 k (x ++ [(L.length : Int) % 256]) L (L.length : Int) 0) (fun k => ?_) this
    rw [prog_Bytes.l0, if_neg (by omega), if_pos (by omega)]
  | y :: d, i, x, hd, hi, hx => by
    obtain ⟨hlt, hy, hd2⟩ := drop_at hd
    have hr := rdS hd
    have hys := hs y (hy ▸ List.getElem_mem hlt)
    have hb : (bytesOf y).length = y.size := bytesOf_length y
    have ih := bytes_l0 L N hL hN hs d (i + 1) (x ++ [(y.size : Int) % 256] ++ bytesOf y) hd2 (by omega) (by rw [List.length_append, List.length_append, List.length_singleton, hb]; omega)
    have e : x ++ [(y.size : Int) % 256] ++ bytesOf y ++ (d.flatMap nb ++ ([(L.length : Int) % 256] ++ L.flatMap ib)) = x ++ ((y :: d).flatMap nb ++ ([(L.length : Int) % 256] ++ L.flatMap ib)) := by
      rw [List.flatMap_cons, nb]
      simp
    rw [e] at ih
    refine Ev.step (f := fun k => prog_Bytes.l0 k (x ++ [(y.size : Int) % 256] ++ bytesOf y) N (N.length : Int) ((i + 1 : Nat) : Int) L N) (fun k => ?_) ih
    rw [prog_Bytes.l0, if_pos (by omega), if_pos (by omega), if_pos (by omega), hr, if_pos (by omega), Option.bind_some, if_pos (by rw [List.length_append, List.length_singleton]; omega), w1 (n := 100) (by omega) (by omega)]
theorem bytes_ev (L : List S41) (N : List ByteArray) : Ev (fun k => prog_Bytes.f k L N) (bytesV L N) := by
  unfold bytesV
  by_cases h : mayV L N = 0
  · obtain ⟨h1, h2, h3, h4⟩ := may0 h
    rw [if_pos h]
    refine Ev.bind (may_ev L N) ?_
    refine Ev.congr (fun k => if_pos h) ?_
    have := bytes_l0 L N h1 h2 h3 N 0 [88, 82, (N.length : Int) % 256] rfl (Nat.zero_le _) (by simp)
    have e : [88, 82, (N.length : Int) % 256] ++ (N.flatMap nb ++ ([(L.length : Int) % 256] ++ L.flatMap ib)) = encB L N := by
      unfold encB
      simp
    rw [e] at this
    exact this
  · rw [if_neg h]
    refine Ev.bind (may_ev L N) ?_
    exact Ev.congr (f := fun _ => some ([], mayV L N)) (fun k => if_neg h) (Ev.now _)
theorem enc_len {L : List S41} {N : List ByteArray} (h : mayV L N = 0) : (encB L N).length = 4 + N.length + (N.map ByteArray.size).sum + 3 * L.length := by
  have h1 : ∀ N : List ByteArray, (N.flatMap nb).length = N.length + (N.map ByteArray.size).sum := by
    intro N
    induction N with
    | nil => rfl
    | cons s N ih => rw [List.flatMap_cons, List.length_append, ih, nb, List.length_cons, bytesOf_length, List.length_cons, List.map_cons, List.sum_cons]; omega
  have h2 : ∀ L : List S41, (L.flatMap ib).length = 3 * L.length := by
    intro L
    induction L with
    | nil => rfl
    | cons s L ih => rw [List.flatMap_cons, List.length_append, ih, List.length_cons, show (ib s).length = 3 from rfl]; omega
  unfold encB
  rw [List.length_append, List.length_append, List.length_append, h1, h2]
  simp
  omega
theorem okB_enc (L : List S41) (N : List ByteArray) : okB (encB L N) := by
  have h1 : ∀ N : List ByteArray, okB (N.flatMap nb) := by
    intro N x hx
    obtain ⟨s, _, hx⟩ := List.mem_flatMap.1 hx
    rcases List.mem_cons.1 hx with rfl | hx
    · omega
    · exact okB_bytesOf s x hx
  have h2 : ∀ L : List S41, okB (L.flatMap ib) := by
    intro L x hx
    obtain ⟨s, _, hx⟩ := List.mem_flatMap.1 hx
    simp only [ib, List.mem_cons, List.not_mem_nil, or_false] at hx
    omega
  intro x hx
  unfold encB at hx
  rcases List.mem_append.1 hx with hx | hx
  · rcases List.mem_append.1 hx with hx | hx
    · rcases List.mem_append.1 hx with hx | hx
      · simp only [List.mem_cons, List.not_mem_nil, or_false] at hx
        omega
      · exact h1 N x hx
    · rw [List.mem_singleton] at hx; omega
  · exact h2 L x hx
theorem okB_bytesV (L : List S41) (N : List ByteArray) : okB (bytesV L N).1 := by
  unfold bytesV
  split
  · exact okB_enc L N
  · intro x hx; cases hx
theorem small_l0 (L : List S41) (N : List ByteArray) (hN : N.length ≤ 9223372036854775806) : ∀ (d : List ByteArray) (i : Nat) (n : Int), N.drop i = d → i ≤ N.length → ∃ b, Ev (fun k => crossroadslaw10_Small.l0 k n (i : Int) L N) b ∧ (b = true → L.length ≤ 500 ∧ N.length ≤ 100)
  | [], i, n, hd, hi => by
    have h1 : N.length ≤ i := List.drop_eq_nil_iff.1 hd
    refine ⟨decide (L.length ≤ 500) && (decide (N.length ≤ 100) && decide (n ≤ 5000)), ?_, fun h => ?_⟩
    · refine Ev.step (f := fun _ => some (decide (L.length ≤ 500) && (decide (N.length ≤ 100) && decide (n ≤ 5000)))) (fun k => ?_) (Ev.now _)
      rw [crossroadslaw10_Small.l0, if_neg (by omega)]
      by_cases a : L.length ≤ 500
      · rw [if_pos (by omega), decide_eq_true a]
        by_cases b : N.length ≤ 100
        · rw [if_pos (by omega), decide_eq_true b]; rfl
        · rw [if_neg (by omega), decide_eq_false b]; rfl
      · rw [if_neg (by omega), decide_eq_false a]; rfl
    · rw [Bool.and_eq_true, Bool.and_eq_true] at h
      exact ⟨of_decide_eq_true h.1, of_decide_eq_true h.2.1⟩
  | y :: d, i, n, hd, hi => by
    obtain ⟨hlt, _, hd2⟩ := drop_at hd
    obtain ⟨b, hb, hb2⟩ := small_l0 L N hN d (i + 1) (wrap64 (n + (y.size : Int))) hd2 (by omega)
    refine ⟨b, Ev.step (fun k => ?_) hb, hb2⟩
    rw [crossroadslaw10_Small.l0, if_pos (by omega), if_pos (by omega), rdS hd, show wrap64 ((i : Int) + 1) = ((i + 1 : Nat) : Int) by unfold wrap64; omega]
theorem small_ev (L : List S41) (N : List ByteArray) (hN : N.length ≤ 9223372036854775806) : ∃ b, Ev (fun k => crossroadslaw10_Small.f k L N) b ∧ (b = true → L.length ≤ 500 ∧ N.length ≤ 100) := small_l0 L N hN N 0 0 rfl (Nat.zero_le _)
end Go.Proofs.YtckmgoeflecpgaaDoor.L
