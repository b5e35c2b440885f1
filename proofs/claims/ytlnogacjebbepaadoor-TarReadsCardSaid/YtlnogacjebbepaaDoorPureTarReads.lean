/- The law TarReads over numbers and lists: any bytes are files whose archive they are, or none. -/
import Derived.Test.YtlnogacjebbepaaDoorTarA
namespace Go.Proofs.YtlnogacjebbepaaDoor.Pure
set_option linter.unusedVariables false
open Go.RowKit Go.Proofs.YtlnogacjebbepaaDoor.P Go.Proofs.YtlnogacjebbepaaDoor.H Go.Proofs.YtlnogacjebbepaaDoorW.PrintWords Go.Proofs.YtlnogacjebbepaaDoorW.PrintLast Go.Proofs.YtlnogacjebbepaaDoorW.PrintMore
theorem TarReads : crossroadslaw22_TarReads.Pure := by
  unfold crossroadslaw22_TarReads.Pure
  rintro l0 ⟨h1, h2, h3⟩
  have hb := okB_of h3
  suffices h : Ev (fun k => crossroadslaw22_TarReads.f k l0) true from h.rounds
  refine Ev.bind awake_ev ?_
  refine Ev.congr (fun k => if_pos rfl) ?_
  by_cases c : (l0.length : Int) > 20000
  · exact Ev.congr (fun k => if_pos c) (Ev.now _)
  · refine Ev.congr (fun k => if_neg c) ?_
    obtain ⟨r, hr, hP⟩ := read_any l0.length l0.length l0 [] (Nat.le_refl _) (by omega) (by simp; omega) hb
    refine Ev.bind (g := fun k => tar_Read.f k l0) hr ?_
    rcases hP with ⟨e1, e2⟩ | ⟨e0, hw, d, e1, e2, e3⟩
    · rcases e2 with e2 | e2
      · refine Ev.congr (f := fun _ => some true) (fun k => ?_) (Ev.now _)
        rw [e1, e2, if_neg (by decide), if_pos (by rfl), if_pos rfl]
      · refine Ev.congr (f := fun _ => some true) (fun k => ?_) (Ev.now _)
        rw [e1, e2, if_neg (by decide), if_pos (by rfl), if_neg (by decide)]
        rfl
    · refine Ev.congr (fun k => if_pos e0) ?_
      rw [List.nil_append] at e1
      have hok : ∀ x ∈ d, okF x := fun x hx => (e3 x hx).1
      have hlen : l0.length = 512 * costs d + 1024 := by rw [e2, List.length_append, bodyB_len d hok, zs_len]
      have hm := may_of hok (by omega)
      have hwr := write_ev d (by have := costs_le d; omega)
      have hwv : writeV d = (l0, 0) := by unfold writeV; rw [if_pos hm, e2]
      rw [e1]
      rw [hwv] at hwr
      refine Ev.bind hwr ?_
      refine Ev.congr (f := fun _ => some true) (fun k => ?_) (Ev.now _)
      rw [if_pos rfl, beq_self_eq_true]
end Go.Proofs.YtlnogacjebbepaaDoor.Pure
