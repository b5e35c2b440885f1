/- Fails: the document's example, and whether entries may be. -/
import Derived.Test.YtpjnacblaipljaaFailsWalk
import Derived.Test.YtpjnacblaipljaaQx1
namespace Go.Proofs.Ytpjnacblaipljaa.Fails
set_option linter.unusedVariables false
set_option linter.unusedSimpArgs false
open Go.RowKit Go.Proofs.YtpjnacblaipljaaW.PrintWords Go.Proofs.YtpjnacblaipljaaW.PrintLast Go.Proofs.YtpjnacblaipljaaW.PrintMore

set_option maxRecDepth 100000 in
set_option maxHeartbeats 4000000 in
theorem awake_calls (w : World) : Calls Try.prog 12 #[] w fun e w' => e = .returned (.bool true) ∧ Below w.heap.size w w' := by
  have m1 : Q.fails_May.f 4 [true, false] 2 1 = some true := by decide +kernel
  have m2 : Q.fails_May.f 4 [true, true] 2 1 = some false := by decide +kernel
  go_enter Try.func12, Try.ntmps12
  go_wp2_with (first
    | ((with_reducible refine gate_dst (N := 4) rfl ?_); refine Kd.R_lit Kd.bool w.heap.size 4 ?hg (N := 4) ?hd (xs := ([true] : List Bool)) (inner := [.bool true]) (ok := fun _ => True) (okp := fun _ => True) ?hr ?hp (fun _ hk => hk) trivial (Below.refl _ _) (Nat.le_refl _) (by simp) ?_; (case hd => rfl); (case hg => rfl); (case hr => first | (go_simp; done) | (go_simp; rfl)); (case hp => exact (Reps.one (show Kd.M Kd.bool _ _ _ true [.bool true] from rfl) (Reps.none _ _))); intro v1 w1 hR1 hB1 hg_ hnew_; clear hg_ hnew_; obtain ⟨A1, c1, rfl, hc1, hC1⟩ := Kd.R_reads hR1)
    | (go_at_call 13; (refine (new_calls A1 c1 [true] _ hC1 hc1 (by decide)).mono ?_); rintro e w2 ⟨g, v, rfl, hF, hB2⟩; have hB3 := hB1.trans (hB2.mono hB1.size))
    | (go_at_call 14; have _h := hF3; go_must (refine (next_end _ _ g v [true] hF3).mono ?_); rintro e w4 ⟨rfl, ⟨n4, rfl⟩⟩; have hF5 : F ((w2.setCell ⟨g, 1, none⟩ (.int .i64 1)).drewN (n3 + n4)) _ g v [true] 1 := F_drewN (F_step hF 1) (n3 + n4))
    | (go_at_call 14; go_must (refine (next_more _ _ g v [true] 0 hF (by decide) (by decide) (by unfold wrap64; omega)).mono ?_); rintro e w3 ⟨rfl, ⟨n3, rfl⟩⟩; have hF3 : F ((w2.setCell ⟨g, 1, none⟩ (.int .i64 1)).drewN n3) _ g v [true] 1 := F_drewN (F_step hF 1) n3; have hB4 : Below w.heap.size w (w2.setCell ⟨g, 1, none⟩ (.int .i64 1)) := hB3.setCell (p := ⟨g, 1, none⟩) (Nat.le_trans hB1.size hF.2.1) (.int .i64 1))
    | (go_at_call 15; go_must (refine (used_calls _ _ g v [true] 1 hF5).mono ?_); rintro e w5 ⟨rfl, ⟨n5, rfl⟩⟩)
    | ((with_reducible refine gate_dst (N := 23) rfl ?_); (try (refine gate_guard (by rfl) ?_; dsimp only)); go_must (refine Kd.R_lit Kd.bool w.heap.size 4 ?hg (N := 23) ?hd (xs := ([true, false] : List Bool)) (inner := [.bool true, .bool false]) (ok := fun _ => True) (okp := fun _ => True) ?hr ?hp (fun _ hk => hk) trivial (pw_below_drewN hB4 _) (hB4.size) (by simp) ?_); (case hd => rfl); (case hg => rfl); (case hr => first | (go_simp; done) | (go_simp; rfl)); (case hp => exact (Reps.one (show Kd.M Kd.bool _ _ _ true [.bool true] from rfl) (Reps.one (show Kd.M Kd.bool _ _ _ false [.bool false] from rfl) (Reps.none _ _)))); intro v6 w6 hR6 hB6 hg_ hnew_; clear hg_ hnew_; obtain ⟨A6, c6, rfl, hc6, hC6⟩ := Kd.R_reads hR6)
    | ((with_reducible refine gate_dst (N := 27) rfl ?_); (try (refine gate_guard (by rfl) ?_; dsimp only)); go_must (refine Kd.R_lit Kd.bool w.heap.size 4 ?hg (N := 27) ?hd (xs := ([true, true] : List Bool)) (inner := [.bool true, .bool true]) (ok := fun _ => True) (okp := fun _ => True) ?hr ?hp (fun _ hk => hk) trivial (pw_below_drewN hB6 _) (hB6.size) (by simp) ?_); (case hd => rfl); (case hg => rfl); (case hr => first | (go_simp; done) | (go_simp; rfl)); (case hp => exact (Reps.one (show Kd.M Kd.bool _ _ _ true [.bool true] from rfl) (Reps.one (show Kd.M Kd.bool _ _ _ true [.bool true] from rfl) (Reps.none _ _)))); intro v8 w8 hR8 hB8 hg_ hnew_; clear hg_ hnew_; obtain ⟨A8, c8, rfl, hc8, hC8⟩ := Kd.R_reads hR8)
    | (go_at_call 16; have _h := hC8; go_must (refine (Q.fails_May.calls 4 A8 c8 [true, true] 2 1 false _ hC8 hc8 m2).mono ?_); rintro e w9 ⟨rfl, ⟨n9, rfl⟩⟩)
    | (go_at_call 16; go_must (refine (Q.fails_May.calls 4 A6 c6 [true, false] 2 1 true _ hC6 hc6 m1).mono ?_); rintro e w7 ⟨rfl, ⟨n7, rfl⟩⟩))
  go_ret
  exact ⟨by first | rfl | (simp; done), pw_below_drewN hB8 _⟩
end Go.Proofs.Ytpjnacblaipljaa.Fails
