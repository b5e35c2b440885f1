/- ref22.put: a text at a place of a row. -/
import Derived.Test.YtlnogacjebbepaaDoorPx0
import Derived.Lib.BufferWrite
import Derived.Laws.CopyOwn
namespace Go.Proofs.YtlnogacjebbepaaDoor.H
set_option linter.unusedVariables false
set_option linter.unusedSimpArgs false
open Go.RowKit Go.Proofs.YtlnogacjebbepaaDoorW.PrintWords Go.Proofs.YtlnogacjebbepaaDoorW.PrintLast Go.Proofs.YtlnogacjebbepaaDoorW.PrintMore
def vals (H : List Int) : List Value := H.map (Value.int .u8)
def nums (s : ByteArray) : List Int := s.data.toList.map fun b => (b.toNat : Int)
def putL (H : List Int) (k : Nat) (s : List Int) : List Int := H.take k ++ s ++ H.drop (k + s.length)
theorem putL_len {H : List Int} {k : Nat} {s : List Int} (h : k + s.length ≤ H.length) : (putL H k s).length = H.length := by simp [putL]; omega
theorem vals_put (H : List Int) (k : Nat) (s : ByteArray) : (vals H).take k ++ Lib.byteCells s.data.toList ++ (vals H).drop (k + s.size) = vals (putL H k (nums s)) := by
  have e : Lib.byteCells s.data.toList = vals (nums s) := by simp only [Lib.byteCells, vals, nums, List.map_map]; rfl
  have hl : (nums s).length = s.size := by simp only [nums, List.length_map, Array.length_toList]; rfl
  unfold vals at e ⊢
  rw [e, putL, List.map_append, List.map_append, List.map_take, List.map_drop, hl]
set_option maxHeartbeats 4000000 in
theorem put_calls (g k : Nat) (H : List Int) (s : ByteArray) (w : World) (hg : w.heap[g]? = some (.cells (vals H).toArray 5 (0, 0))) (hH : H.length = 512) (hk : k + s.size ≤ 512) (hk1 : k < 512) :
    Calls Tryd.prog 23 #[.slice (some ⟨g, 0, none⟩) 512 512, .int .i64 (k : Int), .string s] w fun e w' => e = .returned (.tuple #[]) ∧ w' = w.setRow g (vals (putL H k (nums s))).toArray := by
  have hcp : ∀ ty, (Builtin.copy_ #[25, 9] ty #[.slice (some ⟨g, k, none⟩) (512 - k) (512 - k), .string s]).run Tryd.prog w = .ok (goInt s.size) (w.setRow g (vals (putL H k (nums s))).toArray) := fun ty => by
    rw [← vals_put]
    exact Lib.run_copy_row_string w 25 9 ty 5 g k (512 - k) (512 - k) s (vals H).toArray 5 Tryd.underlying25 (by kernel_rfl) hg (by omega) (by simp [vals]; omega)
  have h1 : (k : Int) ≤ 512 := by omega
  have h0 : (0 : Int) ≤ (k : Int) := by omega
  go_enter Tryd.func23, Tryd.ntmps23
  have hne : ¬ 512 = k := by omega
  go_wp2_with fail
  go_end0
  exact ⟨rfl, rfl⟩
end Go.Proofs.YtlnogacjebbepaaDoor.H
