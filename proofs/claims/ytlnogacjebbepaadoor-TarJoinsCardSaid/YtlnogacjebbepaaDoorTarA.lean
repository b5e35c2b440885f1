/- awake, Small, Made, same in closed words. Plain. -/
import Derived.Test.YtlnogacjebbepaaDoorTarR
import Derived.Test.YtlnogacjebbepaaDoorPx4
namespace Go.Proofs.YtlnogacjebbepaaDoor.H
set_option linter.unusedVariables false
set_option linter.unusedSimpArgs false
open Go.RowKit Go.Proofs.YtlnogacjebbepaaDoor.P Go.Proofs.YtlnogacjebbepaaDoor.G Go.Proofs.YtlnogacjebbepaaDoorW.PrintWords Go.Proofs.YtlnogacjebbepaaDoorW.PrintLast Go.Proofs.YtlnogacjebbepaaDoorW.PrintMore
theorem read_ok (l : List S44) (h : mayV l = 0) : Ev (fun k => tar_Read.f k (bodyB l ++ zs 1024)) (l, 0) := by
  obtain ⟨h1, h2⟩ := may_ok h
  have hl : (bodyB l ++ zs 1024).length ≤ 65536 := by rw [List.length_append, bodyB_len l h1, zs_len]; omega
  have hc : ∀ l : List S44, l.length ≤ costs l := by
    intro l
    induction l with
    | nil => exact Nat.le_refl _
    | cons x l ih =>
      rw [costs_cons, List.length_cons]
      have : 1 ≤ cost x := by unfold cost; omega
      omega
  have := hc l
  have hr := read_files (bodyB l ++ zs 1024).length hl l [] h1 (by simp; omega) (by omega)
  rw [List.nil_append] at hr
  exact hr
def ex1 : S44 := ⟨⟨#[97]⟩, false, [5]⟩
theorem awake_ev : Ev (fun k => crossroadslaw22_awake.f k) true := by
  have m0 : mayV [] = 0 := by decide
  have m1 : mayV [ex1] = 0 := may_one (by unfold okF badName badDir ex1; decide)
  have w0 : writeV [] = (zs 1024, 0) := by unfold writeV; rw [if_pos m0]; rfl
  have w1 : writeV [ex1] = (bodyB [ex1] ++ zs 1024, 0) := by unfold writeV; rw [if_pos m1]
  have e0 := write_ev [] (by simp)
  have e1 := write_ev [ex1] (by simp)
  have e2 := read_ok [ex1] m1
  have hl : (bodyB [ex1] ++ zs 1024).length = 2048 := by
    rw [List.length_append, bodyB_len [ex1] (may_ok m1).1, zs_len]
    rfl
  have hz := zs_len 1024
  rw [w0] at e0
  rw [w1] at e1
  generalize bodyB [ex1] ++ zs 1024 = B at e1 e2 hl
  generalize zs 1024 = Z at e0 hz
  refine Ev.bind e0 (Ev.bind e1 (Ev.bind e2 ?_))
  refine Ev.congr (g := _) (f := fun _ => some true) (fun k => ?_) (Ev.now _)
  rw [if_pos rfl, if_pos rfl, if_pos rfl, if_pos (by rw [hz]; rfl), if_pos (by rw [hl]; rfl)]
  kernel_rfl
def sumS : Int → List S37 → Int
  | n, [] => n
  | n, x :: d => sumS (wrap64 (wrap64 (n + (x.f0.size : Int)) + (x.f2.length : Int))) d
theorem small_l0 (l : List S37) (hl : l.length ≤ 9000000000000000000) : ∀ (d : List S37) (n : Int) (i : Nat), i ≤ l.length → l.drop i = d → Ev (fun k => crossroadslaw22_Small.l0 k l n (i : Int)) (if l.length ≤ 200 then decide (sumS n d ≤ 200000) else false)
  | [], n, i, hi, h => by
    have h1 := drop_nil_le h
    by_cases c : l.length ≤ 200
    · rw [if_pos c]
      exact Ev.step (f := fun _ => some (decide (n ≤ 200000))) (fun k => by rw [crossroadslaw22_Small.l0, if_neg (by omega), if_pos (by omega)]) (Ev.now _)
    · rw [if_neg c]
      exact Ev.step (f := fun _ => some false) (fun k => by rw [crossroadslaw22_Small.l0, if_neg (by omega), if_neg (by omega)]) (Ev.now _)
  | x :: d, n, i, hi, h => by
    obtain ⟨hlt, _, h4⟩ := drop_getD z37 h
    have hx := rd37 h
    refine Ev.step (fun k => ?_) (small_l0 l hl d _ (i + 1) (by omega) h4)
    rw [crossroadslaw22_Small.l0, if_pos (by omega), if_pos (by omega), hx, w64 (x := (i : Int) + 1) (by omega)]
    rfl
def okS (l : List S37) : Prop := l.length * 48 ≤ 140737488351232 ∧ l.length ≤ 9223372036854775807 ∧ ∀ y1_ ∈ l, (y1_.f0.size ≤ 140737488351232 ∧ (True ∧ (y1_.f2.length * 1 ≤ 140737488351232 ∧ y1_.f2.length ≤ 9223372036854775807 ∧ ∀ y2_ ∈ y1_.f2, (Lit.int .u8 y2_).wf = true)))
theorem sumS_le : ∀ (d : List S37) (n : Int), 0 ≤ n → n + 400000000000000 * (d.length : Int) ≤ 4000000000000000000 → (∀ x ∈ d, x.f0.size ≤ 140737488351232 ∧ x.f2.length ≤ 140737488351232) → n ≤ sumS n d ∧ ∀ x ∈ d, (x.f0.size : Int) ≤ sumS n d ∧ (x.f2.length : Int) ≤ sumS n d
  | [], n, h0, h1, hd => ⟨Int.le_refl _, by simp⟩
  | x :: d, n, h0, h1, hd => by
    have hx := hd x (by simp)
    have hl : (x :: d).length = d.length + 1 := rfl
    rw [hl] at h1
    have e : wrap64 (wrap64 (n + (x.f0.size : Int)) + (x.f2.length : Int)) = n + (x.f0.size : Int) + (x.f2.length : Int) := by rw [w64 (x := n + (x.f0.size : Int)) (by omega), w64 (by omega)]
    obtain ⟨i1, i2⟩ := sumS_le d (n + (x.f0.size : Int) + (x.f2.length : Int)) (by omega) (by omega) (fun y hy => hd y (by simp [hy]))
    rw [sumS, e]
    refine ⟨by omega, fun y hy => ?_⟩
    rcases List.mem_cons.1 hy with rfl | hy
    · exact ⟨by omega, by omega⟩
    · exact i2 y hy
theorem small_ev (l : List S37) (h : okS l) : ∃ b, Ev (fun k => crossroadslaw22_Small.f k l) b ∧ (b = true → l.length ≤ 200 ∧ ∀ x ∈ l, x.f0.size ≤ 200000 ∧ x.f2.length ≤ 200000) := by
  refine ⟨_, small_l0 l (by have := h.1; omega) l 0 0 (by omega) rfl, fun hb => ?_⟩
  by_cases c : l.length ≤ 200
  · rw [if_pos c] at hb
    have hb := of_decide_eq_true hb
    obtain ⟨_, i2⟩ := sumS_le l 0 (by omega) (by omega) (fun x hx => ⟨(h.2.2 x hx).1, by have := (h.2.2 x hx).2.2.1; omega⟩)
    exact ⟨c, fun x hx => ⟨by have := (i2 x hx).1; omega, by have := (i2 x hx).2; omega⟩⟩
  · rw [if_neg c] at hb; cases hb
theorem made_l0 (l : List S37) (hl : l.length ≤ 1000000) : ∀ (d : List S37) (acc : List S44) (i : Nat), i ≤ l.length → l.drop i = d → acc.length = i → Ev (fun k => crossroadslaw22_Made.l0 k l acc (i : Int)) (acc ++ d.map conv)
  | [], acc, i, hi, h, ha => by
    have h1 := drop_nil_le h
    rw [List.map_nil, List.append_nil]
    exact Ev.step (f := fun _ => some acc) (fun k => by rw [crossroadslaw22_Made.l0, if_neg (by omega)]) (Ev.now _)
  | x :: d, acc, i, hi, h, ha => by
    obtain ⟨hlt, _, h4⟩ := drop_getD z37 h
    have hx := rd37 h
    have e : acc ++ (x :: d).map conv = acc ++ [conv x] ++ d.map conv := by simp
    rw [e]
    have k3 : acc.length < 2932031007402 := by omega
    refine Ev.step (fun k => ?_) (made_l0 l hl d (acc ++ [conv x]) (i + 1) (by omega) h4 (by rw [List.length_append, ha]; rfl))
    rw [crossroadslaw22_Made.l0, if_pos (by omega), if_pos (by omega), if_pos (by exact k3), hx, w64 (x := (i : Int) + 1) (by omega)]
    rfl
theorem made_ev (l : List S37) (hl : l.length ≤ 1000000) : Ev (fun k => crossroadslaw22_Made.f k l) (l.map conv) := by
  have := made_l0 l hl l [] 0 (by omega) rfl rfl
  rw [List.nil_append] at this
  exact this
theorem okB_of {l : List Int} (h : ∀ y ∈ l, (Lit.int .u8 y).wf = true) : okB l := fun x hx => by
  have := h x hx
  simp [Lit.wf, IntKind.min, IntKind.max, IntKind.bits, IntKind.signed] at this
  omega
theorem costs_le (l : List S44) : l.length ≤ costs l := by
  induction l with
  | nil => exact Nat.le_refl _
  | cons x l ih =>
    rw [costs_cons, List.length_cons]
    have : 1 ≤ cost x := by unfold cost; omega
    omega
end Go.Proofs.YtlnogacjebbepaaDoor.H
