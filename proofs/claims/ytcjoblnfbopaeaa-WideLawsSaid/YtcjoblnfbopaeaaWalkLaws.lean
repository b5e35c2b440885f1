/- WideLaws: the walk by hand: the closure `do` captures w. -/
import Derived.Test.YtcjoblnfbopaeaaPx2
import Derived.Test.YtcjoblnfbopaeaaPx4
namespace Go.Proofs.Ytcjoblnfbopaeaa.P
set_option linter.unusedVariables false
open Go.RowKit Go.Proofs.YtcjoblnfbopaeaaW.PrintWords Go.Proofs.YtcjoblnfbopaeaaW.PrintLast Go.Proofs.YtcjoblnfbopaeaaW.PrintMore

set_option maxRecDepth 100000 in
set_option maxHeartbeats 1600000 in
theorem do_calls (op x y v e a0 : Int) (b : Nat) (w : World) (hc : w.cell? ⟨b, 0, none⟩ = some (.int .i64 a0)) (h : wide_Do.f op a0 x y = some (v, e)) :
    Calls Try.prog 19 #[.int .i64 op, .int .u16 x, .int .u16 y, .pointer (some ⟨b, 0, none⟩)] w fun e w' => e = .returned (.int .u16 v) ∧ Drawn0 w w' := by
  go_enter Try.func19, Try.ntmps19
  go_wp2_with (first | (go_at_call 10; (with_reducible refine (wide_Do.calls op a0 x y v e _ h).mono ?_); rintro e w' ⟨rfl, ⟨nd, rfl⟩⟩))
  go_wp2
  go_ret
  exact ⟨rfl, by repeat (first | exact Drawn0.refl _ | apply Drawn0.step)⟩
theorem cellW (w : World) (v : Value) (t : TypeId) (s : Nat × Nat) (n : Nat) : ((w.alloc (Obj.cells #[v] t s)).drewN n).cell? ⟨w.heap.size, 0, none⟩ = some v := by
  show (w.alloc (Obj.cells #[v] t s)).cell? ⟨w.heap.size, 0, none⟩ = some v
  rw [World.cell?_alloc_mark]; rfl
theorem gate_value {P : Program} {ops : Array Oper} {Q : Exit → Act → World → Prop} {o : Oper} {rest : List Oper} {a : Act} {W : World} {n : Tmp} {xs : Array Operand} {ts : Array TypeId} (_ho : o.op = .call { callee := .value (.tmp n), args := xs, argTypes := ts }) (h : wpList P ops Q (o :: rest) a W) : wpList P ops Q (o :: rest) a W := h
set_option maxRecDepth 100000 in
set_option maxHeartbeats 2000000 in
/-- The law, where b cut is nought. -/
theorem laws0 (a0 a1 a2 m z c1 d1 e1 l1 l2 n1 p1 q r s1 x1 : Int) (w : World) (haw : crossroadslaw1_awake.f = some true) (hmay : crossroadsref1_May.f a0 = some true) (hmask : crossroadsref1_Mask.f a0 = some m)
    (hq : wide_Do.f 10 a0 a1 a2 = some (q, 0)) (hr : wide_Do.f 11 a0 a1 a2 = some (r, 0)) (hl : wide_Do.f 15 a0 a1 a2 = some (l1, 0)) (hk : wide_Do.f 15 a0 a2 a1 = some (l2, 0)) (he : wide_Do.f 14 a0 a1 a2 = some (e1, 0)) (hs : wide_Do.f 7 a0 a1 a2 = some (s1, 0)) (ht : wide_Do.f 7 a0 a2 a1 = some (s1, 0)) (hm : wide_Do.f 9 a0 a1 a2 = some (p1, 0)) (hn : wide_Do.f 9 a0 a2 a1 = some (p1, 0)) (hd : wide_Do.f 8 a0 a1 a2 = some (d1, 0)) (hc : wide_Do.f 7 a0 d1 a2 = some (c1, 0)) (hx : wide_Do.f 6 a0 a1 a2 = some (x1, 0)) (hy : wide_Do.f 6 a0 x1 a2 = some (c1, 0)) (hu : wide_Do.f 3 a0 a1 0 = some (n1, 0)) (hv : wide_Do.f 3 a0 n1 0 = some (c1, 0))
    (hone : IntKind.u16.wrap (IntKind.u16.wrap (l1 + l2) + e1) = 1) (hcm : bits .and .u16 a1 m = c1) (hbm : bits .and .u16 a2 m = z) (hz : (z == 0) = true) :
    Calls Try.prog 5 #[.int .i64 a0, .int .u16 a1, .int .u16 a2] w fun e w' => e = .returned (.bool true) ∧ Below w.heap.size w w' := by
  have hone' : (IntKind.u16.wrap (IntKind.u16.wrap (l1 + l2) + e1) == 1) = true := beq_iff_eq.mpr hone
  have hmf : ∀ (fn : Fn) (first cap : Array Value) (w : World), (Instr.makeFunc fn first cap).run Try.prog w = .ok (.func fn first cap) w := fun _ _ _ _ => rfl
  go_enter Try.func5, Try.ntmps5
  dsimp only [List.append]
  go_wp2_with (first | (go_at_call 9; (with_reducible refine (crossroadslaw1_awake.calls true _ haw).mono ?_); rintro e w' ⟨rfl, ⟨nd, rfl⟩⟩) | (go_at_call 14; (with_reducible refine (crossroadsref1_May.calls a0 true _ hmay).mono ?_); rintro e w' ⟨rfl, ⟨nd, rfl⟩⟩) | (go_at_call 16; (with_reducible refine (crossroadsref1_Mask.calls a0 m _ hmask).mono ?_); rintro e w' ⟨rfl, ⟨nd, rfl⟩⟩) | (go_at_call 19; (with_reducible refine (do_calls 10 a1 a2 q 0 a0 _ _ (cellW _ _ _ _ _) hq).mono ?_); rintro e w' ⟨rfl, ⟨nd, rfl⟩⟩) | (go_at_call 19; (with_reducible refine (do_calls 11 a1 a2 r 0 a0 _ _ (cellW _ _ _ _ _) hr).mono ?_); rintro e w' ⟨rfl, ⟨nd, rfl⟩⟩) | (go_at_call 19; (with_reducible refine (do_calls 15 a1 a2 l1 0 a0 _ _ (cellW _ _ _ _ _) hl).mono ?_); rintro e w' ⟨rfl, ⟨nd, rfl⟩⟩) | (go_at_call 19; (with_reducible refine (do_calls 15 a2 a1 l2 0 a0 _ _ (cellW _ _ _ _ _) hk).mono ?_); rintro e w' ⟨rfl, ⟨nd, rfl⟩⟩) | (go_at_call 19; (with_reducible refine (do_calls 14 a1 a2 e1 0 a0 _ _ (cellW _ _ _ _ _) he).mono ?_); rintro e w' ⟨rfl, ⟨nd, rfl⟩⟩) | (go_at_call 19; (with_reducible refine (do_calls 7 a1 a2 s1 0 a0 _ _ (cellW _ _ _ _ _) hs).mono ?_); rintro e w' ⟨rfl, ⟨nd, rfl⟩⟩) | (go_at_call 19; (with_reducible refine (do_calls 7 a2 a1 s1 0 a0 _ _ (cellW _ _ _ _ _) ht).mono ?_); rintro e w' ⟨rfl, ⟨nd, rfl⟩⟩) | (go_at_call 19; (with_reducible refine (do_calls 9 a1 a2 p1 0 a0 _ _ (cellW _ _ _ _ _) hm).mono ?_); rintro e w' ⟨rfl, ⟨nd, rfl⟩⟩) | (go_at_call 19; (with_reducible refine (do_calls 9 a2 a1 p1 0 a0 _ _ (cellW _ _ _ _ _) hn).mono ?_); rintro e w' ⟨rfl, ⟨nd, rfl⟩⟩) | (go_at_call 19; (with_reducible refine (do_calls 8 a1 a2 d1 0 a0 _ _ (cellW _ _ _ _ _) hd).mono ?_); rintro e w' ⟨rfl, ⟨nd, rfl⟩⟩) | (go_at_call 19; (with_reducible refine (do_calls 7 d1 a2 c1 0 a0 _ _ (cellW _ _ _ _ _) hc).mono ?_); rintro e w' ⟨rfl, ⟨nd, rfl⟩⟩) | (go_at_call 19; (with_reducible refine (do_calls 6 a1 a2 x1 0 a0 _ _ (cellW _ _ _ _ _) hx).mono ?_); rintro e w' ⟨rfl, ⟨nd, rfl⟩⟩) | (go_at_call 19; (with_reducible refine (do_calls 6 x1 a2 c1 0 a0 _ _ (cellW _ _ _ _ _) hy).mono ?_); rintro e w' ⟨rfl, ⟨nd, rfl⟩⟩) | (go_at_call 19; (with_reducible refine (do_calls 3 a1 0 n1 0 a0 _ _ (cellW _ _ _ _ _) hu).mono ?_); rintro e w' ⟨rfl, ⟨nd, rfl⟩⟩) | (go_at_call 19; (with_reducible refine (do_calls 3 n1 0 c1 0 a0 _ _ (cellW _ _ _ _ _) hv).mono ?_); rintro e w' ⟨rfl, ⟨nd, rfl⟩⟩))
  go_ret
  exact ⟨by first | rfl | (simp; done) | (simp [*]; done), pw_below_drewN ((Below.refl _ _).alloc (Nat.le_refl _) _) _⟩
set_option maxRecDepth 100000 in
set_option maxHeartbeats 2000000 in
/-- The law, where b cut is not nought. -/
theorem laws1 (a0 a1 a2 m z c1 d1 e1 l1 l2 n1 p1 p2 q r s1 x1 : Int) (w : World) (haw : crossroadslaw1_awake.f = some true) (hmay : crossroadsref1_May.f a0 = some true) (hmask : crossroadsref1_Mask.f a0 = some m)
    (hq : wide_Do.f 10 a0 a1 a2 = some (q, 0)) (hr : wide_Do.f 11 a0 a1 a2 = some (r, 0)) (hl : wide_Do.f 15 a0 a1 a2 = some (l1, 0)) (hk : wide_Do.f 15 a0 a2 a1 = some (l2, 0)) (he : wide_Do.f 14 a0 a1 a2 = some (e1, 0)) (hs : wide_Do.f 7 a0 a1 a2 = some (s1, 0)) (ht : wide_Do.f 7 a0 a2 a1 = some (s1, 0)) (hm : wide_Do.f 9 a0 a1 a2 = some (p1, 0)) (hn : wide_Do.f 9 a0 a2 a1 = some (p1, 0)) (hd : wide_Do.f 8 a0 a1 a2 = some (d1, 0)) (hc : wide_Do.f 7 a0 d1 a2 = some (c1, 0)) (hx : wide_Do.f 6 a0 a1 a2 = some (x1, 0)) (hy : wide_Do.f 6 a0 x1 a2 = some (c1, 0)) (hu : wide_Do.f 3 a0 a1 0 = some (n1, 0)) (hv : wide_Do.f 3 a0 n1 0 = some (c1, 0)) (hp : wide_Do.f 9 a0 q a2 = some (p2, 0)) (hg : wide_Do.f 7 a0 p2 r = some (c1, 0))
    (hone : IntKind.u16.wrap (IntKind.u16.wrap (l1 + l2) + e1) = 1) (hcm : bits .and .u16 a1 m = c1) (hbm : bits .and .u16 a2 m = z) (hz : (z == 0) = false) (hrz : r < z) :
    Calls Try.prog 5 #[.int .i64 a0, .int .u16 a1, .int .u16 a2] w fun e w' => e = .returned (.bool true) ∧ Below w.heap.size w w' := by
  have hone' : (IntKind.u16.wrap (IntKind.u16.wrap (l1 + l2) + e1) == 1) = true := beq_iff_eq.mpr hone
  have hmf : ∀ (fn : Fn) (first cap : Array Value) (w : World), (Instr.makeFunc fn first cap).run Try.prog w = .ok (.func fn first cap) w := fun _ _ _ _ => rfl
  go_enter Try.func5, Try.ntmps5
  dsimp only [List.append]
  go_wp2_with (first | (go_at_call 9; (with_reducible refine (crossroadslaw1_awake.calls true _ haw).mono ?_); rintro e w' ⟨rfl, ⟨nd, rfl⟩⟩) | (go_at_call 14; (with_reducible refine (crossroadsref1_May.calls a0 true _ hmay).mono ?_); rintro e w' ⟨rfl, ⟨nd, rfl⟩⟩) | (go_at_call 16; (with_reducible refine (crossroadsref1_Mask.calls a0 m _ hmask).mono ?_); rintro e w' ⟨rfl, ⟨nd, rfl⟩⟩) | (go_at_call 19; (with_reducible refine (do_calls 10 a1 a2 q 0 a0 _ _ (cellW _ _ _ _ _) hq).mono ?_); rintro e w' ⟨rfl, ⟨nd, rfl⟩⟩) | (go_at_call 19; (with_reducible refine (do_calls 11 a1 a2 r 0 a0 _ _ (cellW _ _ _ _ _) hr).mono ?_); rintro e w' ⟨rfl, ⟨nd, rfl⟩⟩) | (go_at_call 19; (with_reducible refine (do_calls 15 a1 a2 l1 0 a0 _ _ (cellW _ _ _ _ _) hl).mono ?_); rintro e w' ⟨rfl, ⟨nd, rfl⟩⟩) | (go_at_call 19; (with_reducible refine (do_calls 15 a2 a1 l2 0 a0 _ _ (cellW _ _ _ _ _) hk).mono ?_); rintro e w' ⟨rfl, ⟨nd, rfl⟩⟩) | (go_at_call 19; (with_reducible refine (do_calls 14 a1 a2 e1 0 a0 _ _ (cellW _ _ _ _ _) he).mono ?_); rintro e w' ⟨rfl, ⟨nd, rfl⟩⟩) | (go_at_call 19; (with_reducible refine (do_calls 7 a1 a2 s1 0 a0 _ _ (cellW _ _ _ _ _) hs).mono ?_); rintro e w' ⟨rfl, ⟨nd, rfl⟩⟩) | (go_at_call 19; (with_reducible refine (do_calls 7 a2 a1 s1 0 a0 _ _ (cellW _ _ _ _ _) ht).mono ?_); rintro e w' ⟨rfl, ⟨nd, rfl⟩⟩) | (go_at_call 19; (with_reducible refine (do_calls 9 a1 a2 p1 0 a0 _ _ (cellW _ _ _ _ _) hm).mono ?_); rintro e w' ⟨rfl, ⟨nd, rfl⟩⟩) | (go_at_call 19; (with_reducible refine (do_calls 9 a2 a1 p1 0 a0 _ _ (cellW _ _ _ _ _) hn).mono ?_); rintro e w' ⟨rfl, ⟨nd, rfl⟩⟩) | (go_at_call 19; (with_reducible refine (do_calls 8 a1 a2 d1 0 a0 _ _ (cellW _ _ _ _ _) hd).mono ?_); rintro e w' ⟨rfl, ⟨nd, rfl⟩⟩) | (go_at_call 19; (with_reducible refine (do_calls 7 d1 a2 c1 0 a0 _ _ (cellW _ _ _ _ _) hc).mono ?_); rintro e w' ⟨rfl, ⟨nd, rfl⟩⟩) | (go_at_call 19; (with_reducible refine (do_calls 6 a1 a2 x1 0 a0 _ _ (cellW _ _ _ _ _) hx).mono ?_); rintro e w' ⟨rfl, ⟨nd, rfl⟩⟩) | (go_at_call 19; (with_reducible refine (do_calls 6 x1 a2 c1 0 a0 _ _ (cellW _ _ _ _ _) hy).mono ?_); rintro e w' ⟨rfl, ⟨nd, rfl⟩⟩) | (go_at_call 19; (with_reducible refine (do_calls 3 a1 0 n1 0 a0 _ _ (cellW _ _ _ _ _) hu).mono ?_); rintro e w' ⟨rfl, ⟨nd, rfl⟩⟩) | (go_at_call 19; (with_reducible refine (do_calls 3 n1 0 c1 0 a0 _ _ (cellW _ _ _ _ _) hv).mono ?_); rintro e w' ⟨rfl, ⟨nd, rfl⟩⟩) | (go_at_call 19; (with_reducible refine (do_calls 9 q a2 p2 0 a0 _ _ (cellW _ _ _ _ _) hp).mono ?_); rintro e w' ⟨rfl, ⟨nd, rfl⟩⟩) | (go_at_call 19; (with_reducible refine (do_calls 7 p2 r c1 0 a0 _ _ (cellW _ _ _ _ _) hg).mono ?_); rintro e w' ⟨rfl, ⟨nd, rfl⟩⟩))
  go_ret
  exact ⟨by first | rfl | (simp; done) | (simp [*]; done), pw_below_drewN ((Below.refl _ _).alloc (Nat.le_refl _) _) _⟩
set_option maxRecDepth 100000 in
set_option maxHeartbeats 2000000 in
/-- The law, where there is no such width. -/
theorem laws_out (a0 a1 a2 : Int) (w : World) (haw : crossroadslaw1_awake.f = some true) (hmay : crossroadsref1_May.f a0 = some false) :
    Calls Try.prog 5 #[.int .i64 a0, .int .u16 a1, .int .u16 a2] w fun e w' => e = .returned (.bool true) ∧ Below w.heap.size w w' := by
  go_enter Try.func5, Try.ntmps5
  dsimp only [List.append]
  go_wp2_with (first | (go_at_call 9; (with_reducible refine (crossroadslaw1_awake.calls true _ haw).mono ?_); rintro e w' ⟨rfl, ⟨nd, rfl⟩⟩) | (go_at_call 14; (with_reducible refine (crossroadsref1_May.calls a0 false _ hmay).mono ?_); rintro e w' ⟨rfl, ⟨nd, rfl⟩⟩))
  go_ret
  exact ⟨by first | rfl | (simp; done) | (simp [*]; done), pw_below_drewN ((Below.refl _ _).alloc (Nat.le_refl _) _) _⟩
end Go.Proofs.Ytcjoblnfbopaeaa.P
