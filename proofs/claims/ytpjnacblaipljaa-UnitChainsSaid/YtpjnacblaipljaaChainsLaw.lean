/- UnitChains, the plain part: a chain is gone through to its end; one clause more spoils it. -/
import Derived.Test.YtpjnacblaipljaaUnitConf
import Derived.Test.YtpjnacblaipljaaChainsWalk
namespace Go.Proofs.Ytpjnacblaipljaa.Chains
set_option linter.unusedVariables false
open Go.RowKit Go.Proofs.Ytpjnacblaipljaa.P Go.Proofs.Ytpjnacblaipljaa.Lem Go.Proofs.Ytpjnacblaipljaa.Pure Go.Proofs.Ytpjnacblaipljaa.Conf Go.Proofs.YtpjnacblaipljaaW.PrintWords
theorem mem_ch {k : Nat} {c : List Int} : c ∈ ch k ↔ c = [1] ∨ ∃ j : Nat, j + 1 < k ∧ c = [-((j : Int) + 1), (j : Int) + 2] := by
  unfold ch
  rw [List.mem_cons, List.mem_map]
  constructor
  · rintro (h | ⟨j, hj, rfl⟩)
    · exact .inl h
    · exact .inr ⟨j, by have := List.mem_range.1 hj; omega, rfl⟩
  · rintro (h | ⟨j, hj, rfl⟩)
    · exact .inl h
    · exact .inr ⟨j, List.mem_range.2 (by omega), rfl⟩
theorem ch_ok {k : Nat} (hk : 1 ≤ k) : ∀ c ∈ ch k, ∀ v ∈ c, litOk k v = true := by
  intro c hc v hv
  unfold litOk num
  simp only [Bool.and_eq_true, decide_eq_true_eq]
  rcases mem_ch.1 hc with rfl | ⟨j, hj, rfl⟩
  · obtain rfl := List.mem_singleton.1 hv
    constructor <;> split <;> omega
  · simp only [List.mem_cons, List.not_mem_nil, or_false] at hv
    rcases hv with rfl | rfl <;> constructor <;> split <;> omega
theorem val_up {m : List Int} (j : Nat) : val m ((j : Int) + 1) = m.getD j 0 := by
  unfold val pos num
  rw [if_neg (by omega), if_neg (by omega), show ((j : Int) + 1 - 1).toNat = j by omega]
theorem val_dn {m : List Int} (j : Nat) : val m (-((j : Int) + 1)) = -(m.getD j 0) := by
  unfold val pos num
  rw [if_pos (by omega), if_pos (by omega), show (-(-((j : Int) + 1)) - 1).toNat = j by omega]
theorem closed_up {b : List Int} {k : Nat} (hk : 1 ≤ k) (h : ∀ c ∈ ch k, Closed b c) : ∀ j, j < k → b.getD j 0 = 1 := by
  intro j
  induction j with
  | zero =>
    intro _
    have hc := h [1] (mem_ch.2 (.inl rfl))
    have e := @val_up b 0
    rw [show (((0 : Nat) : Int) + 1) = 1 from rfl] at e
    rw [← e]
    apply Decidable.byContradiction
    intro h1
    unfold Closed at hc
    rw [last, if_neg h1] at hc
    by_cases h0 : val b 1 = 0
    · rw [if_pos h0, if_pos (.inl rfl), last] at hc
      cases hc
    · rw [if_neg h0, last] at hc
      cases hc
  | succ j ih =>
    intro hj
    have hp := ih (by omega)
    have hc := h _ (mem_ch.2 (.inr ⟨j, hj, rfl⟩))
    have e1 := @val_dn b j
    have e2 := @val_up b (j + 1)
    rw [show ((j + 1 : Nat) : Int) + 1 = (j : Int) + 2 by omega] at e2
    rw [hp] at e1
    rw [← e2]
    apply Decidable.byContradiction
    intro h1
    unfold Closed at hc
    rw [last, if_neg (by omega), if_neg (by omega), last, if_neg h1] at hc
    by_cases h0 : val b ((j : Int) + 2) = 0
    · rw [if_pos h0, if_pos (.inl rfl), last] at hc
      have := congrArg Prod.fst hc
      simp at this
      omega
    · rw [if_neg h0, last] at hc
      cases hc
theorem ones_closed {k : Nat} (hk : 1 ≤ k) : ∀ c ∈ ch k, Closed (List.replicate k 1) c := by
  have g : ∀ j, j < k → (List.replicate k (1 : Int)).getD j 0 = 1 := fun j hj => by rw [List.getD_eq_getElem?_getD, List.getElem?_replicate, if_pos hj]; rfl
  intro c hc
  unfold Closed
  rcases mem_ch.1 hc with rfl | ⟨j, hj, rfl⟩
  · have e := @val_up (List.replicate k 1) 0
    rw [show (((0 : Nat) : Int) + 1) = 1 from rfl, g 0 (by omega)] at e
    rw [last, if_pos e]
  · have e1 := @val_dn (List.replicate k 1) j
    have e2 := @val_up (List.replicate k 1) (j + 1)
    rw [show ((j + 1 : Nat) : Int) + 1 = (j : Int) + 2 by omega, g (j + 1) hj] at e2
    rw [g j (by omega)] at e1
    rw [last, if_neg (by omega), if_neg (by omega), last, if_pos e2]
theorem zeros_sub (k : Nat) (a : List Int) : Sub (List.replicate k 0) a := by
  intro i hi
  exfalso
  apply hi
  rw [List.getD_eq_getElem?_getD, List.getElem?_replicate]
  split <;> rfl
theorem came_gl {k : Nat} (hk : 1 ≤ k) (hk2 : k ≤ 400) {gl : List (List Int)} (hlen : gl.length ≤ 401) (h : ∀ c ∈ gl, c ∈ ch k ∨ c = [-(k : Int)]) : Came gl := by
  refine ⟨by omega, fun c hc => ?_⟩
  rcases h c hc with h | rfl
  · rcases mem_ch.1 h with rfl | ⟨j, hj, rfl⟩
    · refine ⟨by simp, fun v hv => ?_⟩
      obtain rfl := List.mem_singleton.1 hv
      unfold W64; omega
    · refine ⟨by simp, fun v hv => ?_⟩
      simp only [List.mem_cons, List.not_mem_nil, or_false] at hv
      unfold W64
      rcases hv with rfl | rfl <;> omega
  · refine ⟨by simp, fun v hv => ?_⟩
    obtain rfl := List.mem_singleton.1 hv
    unfold W64; omega
theorem may_gl {k : Nat} (hk : 1 ≤ k) (hk2 : k ≤ 400) {gl : List (List Int)} (h : ∀ c ∈ gl, ∀ v ∈ c, litOk k v = true) : mayB k gl = true := by
  unfold mayB
  simp only [Bool.and_eq_true, decide_eq_true_eq, List.all_eq_true]
  exact ⟨by omega, by omega, h⟩
theorem chain_run {k : Nat} (hk : 1 ≤ k) (hk2 : k ≤ 400) (gl : List (List Int)) (hgl : ∀ c, c ∈ gl ↔ c ∈ ch k) (hlen : gl.length = k) : ∃ K, unit_Run.f K k gl (List.replicate k 0) = some (List.replicate k 1, false, 0) := by
  have hok : ∀ c ∈ gl, ∀ v ∈ c, litOk k v = true := fun c hc => ch_ok hk c ((hgl c).1 hc)
  obtain ⟨r, hr⟩ := runs_some (n := k) (by omega) hok _ (List.replicate k 0) rfl (zeros_asg k)
  obtain ⟨b, rfl, _⟩ := runs_sub (n := k) (by omega) hok (fun c hc => ones_closed hk c ((hgl c).1 hc)) hr (zeros_asg k) (zeros_sub k _)
  have hp := (runs_stays (by omega) hok hr (zeros_asg k) b rfl).2
  have hup := closed_up hk (fun c hc => closed_of gl b b hp c ((hgl c).2 hc))
  have hbl := (runs_asg (by omega) hok hr (zeros_asg k) b rfl).len
  have hb : b = List.replicate k 1 := by
    refine List.ext_getElem (by rw [List.length_replicate]; omega) fun i h1 h2 => ?_
    have := hup i (by omega)
    rw [List.getD_eq_getElem?_getD, List.getElem?_eq_getElem h1] at this
    rw [List.getElem_replicate]
    exact this
  obtain ⟨K, hK⟩ := run_is (came_gl hk hk2 (by omega) (fun c hc => .inl ((hgl c).1 hc))) (by rw [List.length_replicate]; omega) (fine_of (may_gl hk hk2 hok) (zeros_asg k)) hr
  exact ⟨K, (hK K (Nat.le_refl _)).trans (by rw [hb]; rfl)⟩
theorem chain_bad {k : Nat} (hk : 1 ≤ k) (hk2 : k ≤ 400) (gl : List (List Int)) (hgl : ∀ c, c ∈ gl ↔ c ∈ ch k) (hlen : gl.length = k) : ∃ K, unit_Run.f K k (gl ++ [[-(k : Int)]]) (List.replicate k 0) = some ([], true, 0) := by
  have hmem : ∀ c ∈ gl ++ [[-(k : Int)]], c ∈ ch k ∨ c = [-(k : Int)] := fun c hc => by
    rcases List.mem_append.1 hc with h | h
    · exact .inl ((hgl c).1 h)
    · exact .inr (List.mem_singleton.1 h)
  have hok : ∀ c ∈ gl ++ [[-(k : Int)]], ∀ v ∈ c, litOk k v = true := fun c hc => by
    rcases hmem c hc with h | rfl
    · exact ch_ok hk c h
    · intro v hv
      obtain rfl := List.mem_singleton.1 hv
      unfold litOk num
      simp only [Bool.and_eq_true, decide_eq_true_eq]
      constructor <;> split <;> omega
  obtain ⟨r, hr⟩ := runs_some (n := k) (by omega) hok _ (List.replicate k 0) rfl (zeros_asg k)
  have hnone : r = none := by
    cases hrb : r with
    | none => rfl
    | some b =>
      exfalso
      have hp := closed_of _ b b (runs_stays (by omega) hok hr (zeros_asg k) b hrb).2
      have hup := closed_up hk (fun c hc => hp c (List.mem_append_left _ ((hgl c).2 hc)))
      have hl := hp [-(k : Int)] (List.mem_append_right _ (List.mem_singleton.2 rfl))
      have e := @val_dn b (k - 1)
      rw [show ((k - 1 : Nat) : Int) + 1 = (k : Int) by omega, hup (k - 1) (by omega)] at e
      unfold Closed at hl
      rw [last, if_neg (by omega), if_neg (by omega), last] at hl
      cases hl
  subst hnone
  obtain ⟨K, hK⟩ := run_is (came_gl hk hk2 (by rw [List.length_append, hlen]; show k + 1 ≤ 401; omega) hmem) (by rw [List.length_replicate]; omega) (fine_of (may_gl hk hk2 hok) (zeros_asg k)) hr
  exact ⟨K, hK K (Nat.le_refl _)⟩
theorem wf16 {n : Int} (h : (Lit.int .u16 n).wf = true) : 0 ≤ n ∧ n ≤ 65535 := by
  have hmin : IntKind.u16.min = 0 := rfl
  have hmax : IntKind.u16.max = 65535 := rfl
  simp only [Lit.wf, Bool.and_eq_true, decide_eq_true_eq] at h
  omega
theorem chains_any (w : World) (n : Int) (back : Bool) (hn : (Lit.int .u16 n).wf = true) : Calls Try.prog 10 #[.int .u16 n, .bool back] w fun e w' => e = .returned (.bool true) ∧ Below w.heap.size w w' := by
  obtain ⟨n0, n1⟩ := wf16 hn
  have hw : wrap64 n = n := by unfold wrap64; omega
  obtain ⟨q, hq⟩ : ∃ q : Nat, Int.tmod n 400 = q := ⟨_, (Int.toNat_of_nonneg (Int.tmod_nonneg _ n0)).symm⟩
  have hq4 : Int.tmod n 400 < 400 := Int.tmod_lt_of_pos _ (by omega)
  obtain ⟨K, hA⟩ := keeps_awake
  have hA := hA K (Nat.le_refl _)
  have h1 : Int.tmod (wrap64 n) 400 = q := by rw [hw]; exact hq
  have h2 : wrap64 (1 + (q : Int)) = ((q + 1 : Nat) : Int) := by unfold wrap64; omega
  cases back with
  | false => exact chains_fore w n q (q + 1) h1 h2 (by omega) (by omega) K hA ⟨chain_run (by omega) (by omega)⟩ ⟨chain_bad (by omega) (by omega)⟩
  | true => exact chains_back w n q (q + 1) h1 h2 (by omega) (by omega) K hA ⟨chain_run (by omega) (by omega)⟩ ⟨chain_bad (by omega) (by omega)⟩
end Go.Proofs.Ytpjnacblaipljaa.Chains
