/- FailsKnown: the entries by hand. -/
import Derived.Test.YtpjnacblaipljaaFailsAwake
namespace Go.Proofs.Ytpjnacblaipljaa.Fails
set_option linter.unusedVariables false
set_option linter.unusedSimpArgs false
open Go.RowKit Go.Proofs.YtpjnacblaipljaaW.PrintWords Go.Proofs.YtpjnacblaipljaaW.PrintLast Go.Proofs.YtpjnacblaipljaaW.PrintMore

theorem nilC (w : World) : Kd.C Kd.bool w none ([] : List Bool).length [] := ⟨rfl, by decide, fun h => absurd h (by decide)⟩
set_option maxRecDepth 100000 in
set_option maxHeartbeats 8000000 in
theorem known_calls (w : World) : Calls Try.prog 4 #[] w fun e w' => e = .returned (.bool true) ∧ Below w.heap.size w w' := by
  have ma : Q.fails_May.f 8 [] 0 0 = some true := by decide +kernel
  have mb : Q.fails_May.f 8 [] 1 1 = some false := by decide +kernel
  have mc : Q.fails_May.f 8 (List.replicate 7 false) 7 7 = some false := by decide +kernel
  have md : Q.fails_May.f 8 (List.replicate 6 false) 6 0 = some true := by decide +kernel
  have me : Q.fails_May.f 8 [true] 1 0 = some false := by decide +kernel
  have mf : Q.fails_May.f 8 [false] 1 (-1) = some false := by decide +kernel
  have mg : Q.fails_May.f 8 [] (-1) 0 = some false := by decide +kernel
  have ka : ∀ W, Kd.C Kd.bool W none 0 [] → Calls Try.prog 16 #[.slice none 0 0, .int .i64 0, .int .i64 0] W fun e w' => e = .returned (.bool true) ∧ Drawn0 W w' := fun W h => Q.fails_May.calls 8 none 0 [] 0 0 true W h (by decide) ma
  have kb : ∀ W, Kd.C Kd.bool W none 0 [] → Calls Try.prog 16 #[.slice none 0 0, .int .i64 1, .int .i64 1] W fun e w' => e = .returned (.bool false) ∧ Drawn0 W w' := fun W h => Q.fails_May.calls 8 none 0 [] 1 1 false W h (by decide) mb
  have kg : ∀ W, Kd.C Kd.bool W none 0 [] → Calls Try.prog 16 #[.slice none 0 0, .int .i64 (-1), .int .i64 0] W fun e w' => e = .returned (.bool false) ∧ Drawn0 W w' := fun W h => Q.fails_May.calls 8 none 0 [] (-1) 0 false W h (by decide) mg
  go_enter Try.func4, Try.ntmps4
  go_wp2_with (first
    | (go_at_call 12; go_must (refine (awake_calls w).mono ?_); rintro e w1 ⟨rfl, hB1⟩)
    | (go_at_call 13; go_must (refine (new_calls none 0 [] w1 (nilC w1) (by decide) (by decide)).mono ?_); rintro e w2 ⟨g, v, rfl, hF, hB2⟩; have hB3 := hB1.trans (hB2.mono hB1.size))
    | (go_at_call 14; go_must (refine (next_end _ _ g v [] hF).mono ?_); rintro e w4 ⟨rfl, ⟨n4, rfl⟩⟩; have hF4 := F_drewN hF n4)
    | (go_at_call 15; go_must (refine (used_calls _ _ g v [] 0 hF4).mono ?_); rintro e w5 ⟨rfl, ⟨n5, rfl⟩⟩)
    | ((with_reducible refine gate_dst (N := 22) rfl ?_); (try (refine gate_guard (by rfl) ?_; dsimp only)); go_must (refine Kd.R_make Kd.bool w.heap.size 4 rfl (N := 22) rfl 22 (.const (.int .i64 7)) (.const (.int .i64 7)) rfl 7 rfl rfl Try.underlying22 (.bool false) 1 G.infoClone4 rfl (by decide) (by decide) false (ok := fun _ => True) (okp := fun _ => True) rfl (fun _ hk => hk) trivial (by decide) (by decide) (pw_below_drewN hB3 _) (hB3.size) ?_); intro vx wx hRx hBx hg_ hnew_; clear hg_ hnew_; obtain ⟨Ax, cx, rfl, hcx, hCx⟩ := Kd.R_reads hRx; have kx : ∀ W, Kd.C Kd.bool W Ax 7 (List.replicate 7 false) → Calls Try.prog 16 #[.slice Ax 7 cx, .int .i64 7, .int .i64 7] W fun e w' => e = .returned (.bool false) ∧ Drawn0 W w' := fun W h => Q.fails_May.calls 8 Ax cx (List.replicate 7 false) 7 7 false W h hcx mc)
    | ((with_reducible refine gate_dst (N := 27) rfl ?_); (try (refine gate_guard (by rfl) ?_; dsimp only)); go_must (refine Kd.R_make Kd.bool w.heap.size 4 rfl (N := 27) rfl 22 (.const (.int .i64 6)) (.const (.int .i64 6)) rfl 6 rfl rfl Try.underlying22 (.bool false) 1 G.infoClone4 rfl (by decide) (by decide) false (ok := fun _ => True) (okp := fun _ => True) rfl (fun _ hk => hk) trivial (by decide) (by decide) (pw_below_drewN hBx _) (hBx.size) ?_); intro vy wy hRy hBy hg_ hnew_; clear hg_ hnew_; obtain ⟨Ay, cy, rfl, hcy, hCy⟩ := Kd.R_reads hRy; have ky : ∀ W, Kd.C Kd.bool W Ay 6 (List.replicate 6 false) → Calls Try.prog 16 #[.slice Ay 6 cy, .int .i64 6, .int .i64 0] W fun e w' => e = .returned (.bool true) ∧ Drawn0 W w' := fun W h => Q.fails_May.calls 8 Ay cy (List.replicate 6 false) 6 0 true W h hcy md)
    | ((with_reducible refine gate_dst (N := 31) rfl ?_); (try (refine gate_guard (by rfl) ?_; dsimp only)); go_must (refine Kd.R_lit Kd.bool w.heap.size 4 ?hg (N := 31) ?hd (xs := ([true] : List Bool)) (inner := [.bool true]) (ok := fun _ => True) (okp := fun _ => True) ?hr ?hp (fun _ hk => hk) trivial (pw_below_drewN hBy _) (hBy.size) (by simp) ?_); (case hd => rfl); (case hg => rfl); (case hr => first | (go_simp; done) | (go_simp; rfl)); (case hp => exact (Reps.one (show Kd.M Kd.bool _ _ _ true [.bool true] from rfl) (Reps.none _ _))); intro vz wz hRz hBz hg_ hnew_; clear hg_ hnew_; obtain ⟨Az, cz, rfl, hcz, hCz⟩ := Kd.R_reads hRz; have kz : ∀ W, Kd.C Kd.bool W Az 1 [true] → Calls Try.prog 16 #[.slice Az 1 cz, .int .i64 1, .int .i64 0] W fun e w' => e = .returned (.bool false) ∧ Drawn0 W w' := fun W h => Q.fails_May.calls 8 Az cz [true] 1 0 false W h hcz me)
    | ((with_reducible refine gate_dst (N := 36) rfl ?_); (try (refine gate_guard (by rfl) ?_; dsimp only)); go_must (refine Kd.R_lit Kd.bool w.heap.size 4 ?hg (N := 36) ?hd (xs := ([false] : List Bool)) (inner := [.bool false]) (ok := fun _ => True) (okp := fun _ => True) ?hr ?hp (fun _ hk => hk) trivial (pw_below_drewN hBz _) (hBz.size) (by simp) ?_); (case hd => rfl); (case hg => rfl); (case hr => first | (go_simp; done) | (go_simp; rfl)); (case hp => exact (Reps.one (show Kd.M Kd.bool _ _ _ false [.bool false] from rfl) (Reps.none _ _))); intro vu wu hRu hBu hg_ hnew_; clear hg_ hnew_; obtain ⟨Au, cu, rfl, hcu, hCu⟩ := Kd.R_reads hRu; have ku : ∀ W, Kd.C Kd.bool W Au 1 [false] → Calls Try.prog 16 #[.slice Au 1 cu, .int .i64 1, .int .i64 (-1)] W fun e w' => e = .returned (.bool false) ∧ Drawn0 W w' := fun W h => Q.fails_May.calls 8 Au cu [false] 1 (-1) false W h hcu mf)
    | (go_at_call 16; (with_reducible refine (ka _ ?h1ka).mono ?h2ka); (case h1ka => (first | exact nilC _ | exact hCx | exact Kd.C_drewN hCx _)); rintro e w_ ⟨rfl, ⟨n_, rfl⟩⟩)
    | (go_at_call 16; (with_reducible refine (kb _ ?h1kb).mono ?h2kb); (case h1kb => (first | exact nilC _ | exact hCx | exact Kd.C_drewN hCx _)); rintro e w_ ⟨rfl, ⟨n_, rfl⟩⟩)
    | (go_at_call 16; (with_reducible refine (kg _ ?h1kg).mono ?h2kg); (case h1kg => (first | exact nilC _ | exact hCx | exact Kd.C_drewN hCx _)); rintro e w_ ⟨rfl, ⟨n_, rfl⟩⟩)
    | (go_at_call 16; (with_reducible refine (kx _ ?h1kx).mono ?h2kx); (case h1kx => (first | exact nilC _ | exact hCx | exact Kd.C_drewN hCx _)); rintro e w_ ⟨rfl, ⟨n_, rfl⟩⟩)
    | (go_at_call 16; (with_reducible refine (ky _ ?h1ky).mono ?h2ky); (case h1ky => (first | exact nilC _ | exact hCy | exact Kd.C_drewN hCy _)); rintro e w_ ⟨rfl, ⟨n_, rfl⟩⟩)
    | (go_at_call 16; (with_reducible refine (kz _ ?h1kz).mono ?h2kz); (case h1kz => (first | exact nilC _ | exact hCz | exact Kd.C_drewN hCz _)); rintro e w_ ⟨rfl, ⟨n_, rfl⟩⟩)
    | (go_at_call 16; (with_reducible refine (ku _ ?h1ku).mono ?h2ku); (case h1ku => (first | exact nilC _ | exact hCu | exact Kd.C_drewN hCu _)); rintro e w_ ⟨rfl, ⟨n_, rfl⟩⟩))
  go_ret
  exact ⟨by first | rfl | (simp; done), pw_below_drewN hBu _⟩
end Go.Proofs.Ytpjnacblaipljaa.Fails
