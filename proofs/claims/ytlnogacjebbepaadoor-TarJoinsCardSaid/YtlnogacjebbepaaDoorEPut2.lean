/- A row of bytes that lies in one block: what reads it. -/
import Derived.Test.YtlnogacjebbepaaDoorHeadL
namespace Go.Proofs.YtlnogacjebbepaaDoor.H
set_option linter.unusedVariables false
set_option linter.unusedSimpArgs false
open Go.RowKit Go.Proofs.YtlnogacjebbepaaDoor.P Go.Proofs.YtlnogacjebbepaaDoorW.PrintWords Go.Proofs.YtlnogacjebbepaaDoorW.PrintLast Go.Proofs.YtlnogacjebbepaaDoorW.PrintMore
theorem C_block {W : World} {g n : Nat} {H : List Int} (hl : H.length = n) (hn : n ≤ 100000) (hg : W.heap[g]? = some (.cells (vals H).toArray 5 (0, 0))) : Kd.C (Kd.int .u8) W (some ⟨g, 0, none⟩) n H := by
  refine ⟨hl, by omega, fun _ => ⟨_, rfl, fun j p hj => ?_⟩⟩
  obtain ⟨hj1, hj2⟩ := List.getElem?_eq_some_iff.1 hj
  refine ⟨[.int .u8 p], rfl, rfl, fun i u hu => ?_⟩
  cases i with
  | zero =>
    have hu : u = .int .u8 p := by simpa using hu.symm
    subst hu
    have h := blk_cell hg j
    rw [List.getElem?_toArray] at h
    unfold vals at h
    rw [List.getElem?_map, hj] at h
    have e : (⟨g, 0, none⟩ : Addr).add (j * (Kd.int IntKind.u8).sz + 0) = ⟨g, j, none⟩ := by
      have e1 : (Kd.int IntKind.u8).sz = 1 := rfl
      rw [e1]
      simp [Addr.add]
      omega
    rw [e]
    exact h
  | succ i => simp at hu
theorem sum_block (H : List Int) (hl : H.length = 512) : ∀ (W : World) (g : Nat), W.heap[g]? = some (.cells (vals H).toArray 5 (0, 0)) → Calls Tryd.prog 15 #[.slice (some ⟨g, 0, none⟩) 512 512] W fun e w' => e = .returned (.int .i64 (sumV H)) ∧ Drawn0 W w' := fun W g hg => by
  obtain ⟨k, hk⟩ := (sum_ev H (by omega)).rounds
  have h := tar_Sum.calls k (some ⟨g, 0, none⟩) 512 H (sumV H) W (by rw [hl]; exact C_block hl (by omega) hg) (by omega) hk
  rw [hl] at h
  exact h
theorem R_block {W : World} {base g : Nat} {L : List Int} (hl : L.length = 512) (hg : base ≤ g) (hb : W.heap[g]? = some (.cells (vals L).toArray 5 (0, 0))) : Kd.R (Kd.int .u8) 5 W base (fun _ => True) (.slice (some ⟨g, 0, none⟩) 512 512) L := by
  have e : (vals L).toArray.toList = encs (Value.int .u8) L := rfl
  refine Kd.R_of_own (enc := Value.int .u8) (h1 := fun _ => rfl) ?_ (fun _ _ => trivial)
  rw [hl]
  exact ⟨by simp [encs, hl], .inr ⟨g, 512, _, rfl, hg, hb, Nat.le_refl _, by unfold maxLen; omega, by simp [vals, hl], by rw [e, List.take_of_length_le (by simp [encs, hl])]⟩⟩
end Go.Proofs.YtlnogacjebbepaaDoor.H
