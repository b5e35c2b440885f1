/- The law TarWrites over numbers and lists: any files: the archive, or why there is none; read it is them. -/
import Derived.Test.YtlnogacjebbepaaDoorTarA
import Derived.Test.YtlnogacjebbepaaDoorPx6
namespace Go.Proofs.YtlnogacjebbepaaDoor.Pure
set_option linter.unusedVariables false
open Go.RowKit Go.Proofs.YtlnogacjebbepaaDoor.P Go.Proofs.YtlnogacjebbepaaDoor.H Go.Proofs.YtlnogacjebbepaaDoorW.PrintWords Go.Proofs.YtlnogacjebbepaaDoorW.PrintLast Go.Proofs.YtlnogacjebbepaaDoorW.PrintMore
theorem same_l0 (l : List S37) (hl : l.length ≤ 1000000) : ∀ (d : List S37) (i : Nat), i ≤ l.length → l.drop i = d → Ev (fun k => crossroadslaw22_same.l0 k (l.map conv) l (i : Int)) true
  | [], i, hi, h => by
    have h1 := drop_nil_le h
    exact Ev.step (f := fun _ => some true) (fun k => by rw [crossroadslaw22_same.l0, List.length_map, if_neg (by omega)]) (Ev.now _)
  | x :: d, i, hi, h => by
    obtain ⟨hlt, _, h4⟩ := drop_getD z37 h
    have hx := rd37 h
    have hy : rd_T44 (l.map conv) (i : Int) = conv x := rd44 (d := d.map conv) (by rw [← List.map_drop, h]; rfl)
    refine Ev.step (fun k => ?_) (same_l0 l hl d (i + 1) (by omega) h4)
    rw [crossroadslaw22_same.l0, List.length_map, if_pos (by omega), if_pos (by omega), if_pos (by omega), hx, hy, if_pos (by rfl), if_neg (by show ¬ ((x.f1 != x.f1) = true); simp), if_pos (by rfl), w64 (x := (i : Int) + 1) (by omega)]
    rfl
theorem same_ev (l : List S37) (hl : l.length ≤ 1000000) : Ev (fun k => crossroadslaw22_same.f k (l.map conv) l) true := by
  refine Ev.congr (fun k => if_pos (by rw [List.length_map])) (same_l0 l hl l 0 (by omega) rfl)
theorem writes_l0 (l : List S37) (hl : l.length ≤ 1000000) (hn : ∀ x ∈ l, x.f0.size ≤ 99 ∧ x.f2.length ≤ 1000000) : ∀ (d : List S37) (i : Nat), i ≤ l.length → l.drop i = d → Ev (fun k => crossroadslaw22_TarWrites.l0 k l (l.map conv) 0 (i : Int)) true
  | [], i, hi, h => by
    have h1 := drop_nil_le h
    refine Ev.step (fun k => ?_) (Ev.bind (same_ev l hl) (Ev.now _))
    rw [crossroadslaw22_TarWrites.l0, if_neg (by omega), if_pos rfl]
  | x :: d, i, hi, h => by
    obtain ⟨hlt, _, h4⟩ := drop_getD z37 h
    have hx := rd37 h
    have hxl : x ∈ l := by rw [← List.take_append_drop i l, h]; simp
    obtain ⟨n1, n2⟩ := hn x hxl
    have hh := rhead_f (a := x.f0) (b := x.f1) (l := x.f2) n1 (by omega)
    have hlen := headL_len x.f0 x.f1 (x.f2.length : Int) n1
    have ih := writes_l0 l hl hn d (i + 1) (by omega) h4
    generalize headL x.f0 x.f1 (x.f2.length : Int) = L at hh hlen
    have ew : wrap64 ((i : Int) + 1) = ((i + 1 : Nat) : Int) := by rw [w64 (by omega)]; rfl
    have hs := Ev.bind (f := fun k t => (crossroadsref22_Sum.f k L).bind fun t2 => if t = t2 then crossroadslaw22_TarWrites.l0 k l (l.map conv) 0 (wrap64 ((i : Int) + 1)) else none) (sum_ev L (by omega)) (Ev.bind (f := fun k t2 => if sumV L = t2 then crossroadslaw22_TarWrites.l0 k l (l.map conv) 0 (wrap64 ((i : Int) + 1)) else none) (rsum_ev L (by omega)) (Ev.congr (fun k => if_pos rfl) (by rw [ew]; exact ih)))
    refine Ev.step (fun k => ?_) hs
    rw [crossroadslaw22_TarWrites.l0, if_pos (by omega), if_pos (by omega), hx, hh, Option.bind_some]
theorem TarWrites : crossroadslaw22_TarWrites.Pure := by
  unfold crossroadslaw22_TarWrites.Pure
  intro l0 hs
  suffices h : Ev (fun k => crossroadslaw22_TarWrites.f k l0) true from h.rounds
  refine Ev.bind awake_ev ?_
  refine Ev.congr (fun k => if_pos rfl) ?_
  obtain ⟨b, hb, hbt⟩ := small_ev l0 hs
  refine Ev.bind hb ?_
  cases b with
  | false => exact Ev.congr (fun k => if_neg (by decide)) (Ev.now _)
  | true =>
    refine Ev.congr (fun k => if_pos rfl) ?_
    obtain ⟨s1, s2⟩ := hbt rfl
    have s3 : ∀ x ∈ l0, x.f2.length ≤ 1000000000 ∧ x.f0.size ≤ 1000000000 := fun x hx => ⟨by have := (s2 x hx).2; omega, by have := (s2 x hx).1; omega⟩
    refine Ev.bind (made_ev l0 (by omega)) (Ev.bind (write_ev (l0.map conv) (by rw [List.length_map]; omega)) (Ev.bind (refw_ev l0 (by omega) s3) ?_))
    refine Ev.congr (fun k => if_pos rfl) ?_
    have e : ((strOfNums (writeV (l0.map conv)).1).toList != (strOfNums (writeV (l0.map conv)).1).toList) = false := by simp
    rw [e]
    unfold writeV
    by_cases hm : mayV (l0.map conv) = 0
    · rw [if_pos hm]
      have hok := (may_ok hm).1
      have hn : ∀ x ∈ l0, x.f0.size ≤ 99 ∧ x.f2.length ≤ 1000000 := fun x hx => by
        have := hok (conv x) (List.mem_map_of_mem hx)
        exact ⟨okF_name this, by have h := this.2.2; have h2 : x.f2.length ≤ 64000 := h; omega⟩
      refine Ev.step (fun k => ?_) (Ev.bind (f := fun k bt => crossroadslaw22_TarWrites.l0 k l0 bt.1 bt.2 0) (read_ok (l0.map conv) hm) (writes_l0 l0 (by omega) hn l0 0 (by omega) rfl))
      rw [crossroadslaw22_TarWrites.j0, if_neg (by decide), if_pos rfl]
    · rw [if_neg hm]
      refine Ev.step (f := fun _ => some true) (fun k => ?_) (Ev.now _)
      rw [crossroadslaw22_TarWrites.j0, if_neg (by decide), if_neg hm]
end Go.Proofs.YtlnogacjebbepaaDoor.Pure
