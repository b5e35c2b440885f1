/- ProgBytes answers true: any program. -/
import Derived.Test.YtckmgoeflecpgaaDoorPx3
import Derived.Test.YtckmgoeflecpgaaDoorProgS
namespace Go.Proofs.YtckmgoeflecpgaaDoor.Pure
open Go.RowKit Go.Proofs.YtckmgoeflecpgaaDoor.L Go.Proofs.YtckmgoeflecpgaaDoor.I Go.Proofs.YtckmgoeflecpgaaDoor.G Go.Proofs.YtckmgoeflecpgaaDoor.P Go.Proofs.YtckmgoeflecpgaaDoorW.PrintWords Go.Proofs.YtckmgoeflecpgaaDoorW.PrintLast Go.Proofs.YtckmgoeflecpgaaDoorW.PrintMore
theorem readF {L : List S41} {N : List ByteArray} (h : mayV L N = 0) : prog_Read.f (encB L N) = some (L, N, 0) := by
  unfold prog_Read.f
  rw [if_pos (okD_of (okB_enc L N)), read_enc L N h]
theorem ProgBytes : crossroadslaw10_ProgBytes.Pure := by
  rintro L N ⟨_, h2, _⟩ ⟨h4, h5, _⟩
  refine Ev.rounds ?_
  unfold crossroadslaw10_ProgBytes.f
  refine Ev.congr (fun k => by rw [show crossroadslaw10_awake.f = some true from rfl, Option.bind_some, if_pos rfl]) ?_
  obtain ⟨b, hb, _⟩ := small_ev L N (by omega)
  refine Ev.bind hb ?_
  cases b
  · exact Ev.congr (fun k => if_neg (by decide)) (Ev.now _)
  · refine Ev.congr (fun k => if_pos rfl) ?_
    refine Ev.bind (bytes_ev L N) ?_
    refine Ev.congr (fun k => by rw [show crossroadsref12_Bytes.f L N = some (bytesV L N) from rfl, Option.bind_some, if_pos rfl, show ((strOfNums (bytesV L N).1).toList != (strOfNums (bytesV L N).1).toList) = false by simp]) ?_
    by_cases hm : mayV L N = 0
    · have e : bytesV L N = (encB L N, 0) := by unfold bytesV; rw [if_pos hm]
      rw [e]
      refine Ev.step (f := fun k => (crossroadslaw10_Same.f k L N L N).bind fun t => some t) (fun k => ?_) ?_
      · rw [crossroadslaw10_ProgBytes.j0, if_neg (by decide), if_pos rfl, readF hm, Option.bind_some, if_pos rfl]
      · exact Ev.bind (same_self L N (by omega) (by omega)) (Ev.now _)
    · have e : bytesV L N = ([], mayV L N) := by unfold bytesV; rw [if_neg hm]
      rw [e]
      refine Ev.step (f := fun _ => some true) (fun k => ?_) (Ev.now _)
      rw [crossroadslaw10_ProgBytes.j0, if_neg (by decide), if_neg hm]
end Go.Proofs.YtckmgoeflecpgaaDoor.Pure
