/- ProgReads answers true: any bytes. -/
import Derived.Test.YtckmgoeflecpgaaDoorPx3
import Derived.Test.YtckmgoeflecpgaaDoorProgS
namespace Go.Proofs.YtckmgoeflecpgaaDoor.Pure
open Go.RowKit Go.Proofs.YtckmgoeflecpgaaDoor.L Go.Proofs.YtckmgoeflecpgaaDoor.I Go.Proofs.YtckmgoeflecpgaaDoor.G Go.Proofs.YtckmgoeflecpgaaDoor.P Go.Proofs.YtckmgoeflecpgaaDoorW.PrintWords Go.Proofs.YtckmgoeflecpgaaDoorW.PrintLast Go.Proofs.YtckmgoeflecpgaaDoorW.PrintMore
theorem okB_of {l : List Int} (h : ∀ y ∈ l, (Lit.int .u8 y).wf = true) : okB l := fun x hx => by
  have := h x hx
  simp [Lit.wf, IntKind.min, IntKind.max, IntKind.bits, IntKind.signed] at this
  omega
theorem ProgReads : crossroadslaw10_ProgReads.Pure := by
  rintro l0 ⟨_, _, h⟩
  have ok := okB_of h
  unfold crossroadslaw10_ProgReads.f
  rw [show crossroadslaw10_awake.f = some true from rfl, Option.bind_some, if_pos rfl]
  by_cases hl : (l0.length : Int) > 3000
  · rw [if_pos hl]
  · rw [if_neg hl, show prog_Read.f l0 = some (readV l0) by unfold prog_Read.f; rw [if_pos (okD_of ok)], Option.bind_some]
    rcases read_cases l0 ok with ⟨L, N, h1, h2, h3⟩ | h1 | h1 | h1
    · rw [h1, if_pos rfl, show crossroadsref12_Bytes.f L N = some (l0, 0) by unfold crossroadsref12_Bytes.f bytesV; rw [if_pos h2, h3], Option.bind_some, if_pos rfl, beq_self_eq_true]
    · rw [h1, if_neg (by decide)]; rfl
    · rw [h1, if_neg (by decide)]; rfl
    · rw [h1, if_neg (by decide)]; rfl
end Go.Proofs.YtckmgoeflecpgaaDoor.Pure
