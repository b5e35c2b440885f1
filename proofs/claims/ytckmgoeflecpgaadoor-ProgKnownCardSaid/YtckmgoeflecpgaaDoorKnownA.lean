/- The law ProgKnown, walked over the contracts of what it calls. -/
import Derived.Test.YtckmgoeflecpgaaDoorCutsWalk
import Derived.Lib.ConvBytes
namespace Go.Proofs.YtckmgoeflecpgaaDoor.H
set_option linter.unusedVariables false
set_option linter.unusedSimpArgs false
open Go.RowKit Go.Proofs.YtckmgoeflecpgaaDoor.L Go.Proofs.YtckmgoeflecpgaaDoor.I Go.Proofs.YtckmgoeflecpgaaDoor.G Go.Proofs.YtckmgoeflecpgaaDoor.P Go.Proofs.YtckmgoeflecpgaaDoorW.PrintWords Go.Proofs.YtckmgoeflecpgaaDoorW.PrintLast Go.Proofs.YtckmgoeflecpgaaDoorW.PrintMore
def flat (L : List S41) : List Value := L.flatMap fun x => [.int .i64 x.f0, .int .i64 x.f1]
theorem flat_at : ∀ (L : List S41) (j : Nat) (x : S41), L[j]? = some x → (flat L)[j * 2]? = some (.int .i64 x.f0) ∧ (flat L)[j * 2 + 1]? = some (.int .i64 x.f1)
  | [], j, x, h => by simp at h
  | y :: L, 0, x, h => by
    have : y = x := by simpa using h
    subst this
    exact ⟨rfl, rfl⟩
  | y :: L, j + 1, x, h => by
    have := flat_at L j x (by simpa using h)
    have e : flat (y :: L) = .int .i64 y.f0 :: .int .i64 y.f1 :: flat L := rfl
    rw [e, show (j + 1) * 2 = j * 2 + 1 + 1 by omega, show j * 2 + 1 + 1 + 1 = j * 2 + 1 + 1 + 1 from rfl]
    simpa using this
theorem C41 {W : World} {g n : Nat} {L : List S41} (hl : L.length = n) (hn : n ≤ 100000) (hg : W.heap[g]? = some (.cells (flat L).toArray 41 (0, 0))) : Kd.C k41 W (some ⟨g, 0, none⟩) n L := by
  refine ⟨hl, by omega, fun _ => ⟨_, rfl, fun j p hj => ?_⟩⟩
  refine ⟨_, rfl, k41_mk W p, fun i u hu => ?_⟩
  obtain ⟨h0, h1⟩ := flat_at L j p hj
  have e : ∀ i, (⟨g, 0, none⟩ : Addr).add (j * k41.sz + i) = ⟨g, j * 2 + i, none⟩ := fun i => by
    have e1 : k41.sz = 2 := rfl
    rw [e1]
    unfold Addr.add
    by_cases h : j * 2 + i = 0
    · rw [if_pos h, h]
    · rw [if_neg h]; simp
  rw [e]
  have h := blk_cell hg (j * 2 + i)
  rw [List.getElem?_toArray] at h
  match i, hu with
  | 0, hu =>
    have hu : .int .i64 p.f0 = u := by simpa using hu
    rw [← hu, h]; exact h0
  | 1, hu =>
    have hu : .int .i64 p.f1 = u := by simpa using hu
    rw [← hu, h]; exact h1
  | i + 2, hu => simp at hu
theorem C9 {W : World} {g n : Nat} {l : List ByteArray} (hl : l.length = n) (hn : n ≤ 100000) (hg : W.heap[g]? = some (.cells (l.map Value.string).toArray 9 (0, 0))) : Kd.C Kd.string W (some ⟨g, 0, none⟩) n l := by
  refine ⟨hl, by omega, fun _ => ⟨_, rfl, fun j p hj => ?_⟩⟩
  refine ⟨[.string p], rfl, rfl, fun i u hu => ?_⟩
  cases i with
  | zero =>
    have hu : u = .string p := by simpa using hu.symm
    subst hu
    have h := blk_cell hg j
    rw [List.getElem?_toArray, List.getElem?_map, hj] at h
    have e : (⟨g, 0, none⟩ : Addr).add (j * Kd.string.sz + 0) = ⟨g, j, none⟩ := by
      have e1 : Kd.string.sz = 1 := rfl
      rw [e1]
      simp [Addr.add]
      omega
    rw [e]
    exact h
  | succ i => simp at hu
theorem below_bytes (W : World) (s : ByteArray) : Below W.heap.size W (Lib.bytesWorld W 5 s) := ⟨rfl, rfl, rfl, by rw [Lib.bytesWorld_size]; omega, fun k hk => Lib.bytesWorld_at_old W 5 s k hk⟩
theorem C_bytes (W : World) (s : ByteArray) (hs : s.size ≤ 1000) : Kd.C (Kd.int .u8) (Lib.bytesWorld W 5 s) (some ⟨W.heap.size, 0, none⟩) s.size (bytesOf s) := by
  refine Kd.C_of_reads (enc := Value.int .u8) (d := (0 : Int)) (h1 := fun _ => rfl) ⟨bytesOf_length s, by omega, fun h => ⟨_, rfl, fun j hj => ?_⟩⟩
  have e : (⟨W.heap.size, 0, none⟩ : Addr).add j = ⟨W.heap.size, j, none⟩ := by
    unfold Addr.add
    by_cases h : j = 0
    · rw [if_pos h, h]
    · rw [if_neg h]; simp
  rw [e, Lib.bytesWorld_cell W 5 s j hj]
  have hl : j < s.data.toList.length := by rw [Array.length_toList]; exact hj
  congr 2
  unfold bytesOf
  rw [List.getD_eq_getElem?_getD, List.getD_eq_getElem?_getD, List.getElem?_map, List.getElem?_eq_getElem hl]
  rfl
def L3 : List S41 := [⟨1, 4660⟩, ⟨34, 10⟩, ⟨26, 0⟩]
def N2 : List ByteArray := [⟨#[97, 98]⟩, ⟨#[]⟩]
def bads : List ByteArray := [⟨#[]⟩, ⟨#[88, 82]⟩, ⟨#[88, 83, 0, 0]⟩, ⟨#[88, 82, 0, 0, 0]⟩, ⟨#[88, 82, 1, 2, 97]⟩, ⟨#[88, 82, 0, 1, 1, 0]⟩]
def want : List Int := [88, 82, 2, 2, 97, 98, 0, 3, 1, 18, 52, 34, 0, 10, 26, 0, 0]
theorem bytes3 : bytesV L3 N2 = (want, 0) := by kernel_rfl
theorem bytes97 : bytesV (List.replicate 97 ⟨0, 0⟩) [] = ([], 3) := by kernel_rfl
theorem bytes9 : bytesV [] (List.replicate 9 ⟨#[]⟩) = ([], 3) := by kernel_rfl
theorem bytes1 : bytesV [⟨0, 0⟩] [] = ([], 5) := by kernel_rfl
theorem bads4 : ∀ s ∈ bads, (readV (bytesOf s)).2.2 = 4 := by
  have : bads.all (fun s => decide ((readV (bytesOf s)).2.2 = 4)) = true := by kernel_rfl
  exact fun s hs => of_decide_eq_true (List.all_eq_true.1 this s hs)
theorem read5a : (readV [88, 82, 0, 1, 0, 0, 0]).2.2 = 5 := by kernel_rfl
theorem read5b : (readV [88, 82, 0, 1, 2, 0, 1]).2.2 = 5 := by kernel_rfl
theorem text3 : textV L3 = ⟨#[48, 32, 112, 117, 115, 104, 32, 52, 54, 54, 48, 10, 49, 32, 114, 101, 110, 97, 109, 101, 32, 49, 48, 10, 50, 32, 101, 120, 105, 116, 10]⟩ := by
  unfold textV
  rw [textF_eq _ _ (by decide)]
  kernel_rfl
theorem text2 : textV [⟨0, 0⟩, ⟨2, 3⟩] = ⟨#[48, 32, 63, 10, 49, 32, 63, 10]⟩ := by
  unfold textV
  rw [textF_eq _ _ (by decide)]
  kernel_rfl
end Go.Proofs.YtckmgoeflecpgaaDoor.H
