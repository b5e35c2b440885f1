/- ClauseEvals, walked by hand: the rows that came in are told by their headers. -/
import Derived.Test.YtlfghalebkgclaaNormalWalk
namespace Go.Proofs.Ytlfghalebkgclaa.EvalsW
set_option linter.unusedVariables false
set_option linter.unusedSimpArgs false
open Go.RowKit Go.Proofs.Ytlfghalebkgclaa.G Go.Proofs.Ytlfghalebkgclaa.P Go.Proofs.Ytlfghalebkgclaa.Lem Go.Proofs.YtlfghalebkgclaaW.PrintWords Go.Proofs.YtlfghalebkgclaaW.PrintLast Go.Proofs.YtlfghalebkgclaaW.PrintMore
/-- A slice's header. -/
abbrev Hd := Option Addr × Nat × Nat
def hv (h : Hd) : Value := .slice h.1 h.2.1 h.2.2
def kh : Kd Hd := Kd.scalar hv (fun _ => rfl)
def no : Hd := (none, 0, 0)
/-- What a header leads to, in the world in which it came in. -/
def Leads (W : World) (h : Hd) (l : List Int) : Prop := h.2.1 = l.length ∧ l.length ≤ h.2.2 ∧ (Kd.int .i64).C W h.1 l.length l
def All (W : World) (hs : List Hd) (ls : List (List Int)) : Prop := hs.length = ls.length ∧ ∀ (j : Nat) (h : Hd) (l : List Int), hs[j]? = some h → ls[j]? = some l → Leads W h l
theorem heads {W : World} {A : Option Addr} {n : Nat} {ls : List (List Int)} (h : (Kd.slice 3 (Kd.int .i64)).C W A n ls) : ∃ hs, kh.C W A n hs ∧ All W hs ls := by
  obtain ⟨h1, h2, h3⟩ := h
  by_cases hn : 0 < n
  · obtain ⟨ad, rfl, hc⟩ := h3 hn
    have hex : ∀ j : Nat, ∃ hd : Hd, ∀ l, ls[j]? = some l → Leads W hd l ∧ W.cell? (ad.add j) = some (hv hd) := by
      intro j
      cases hj : ls[j]? with
      | none => exact ⟨no, fun l hl => by simp at hl⟩
      | some l =>
        obtain ⟨c, hlen, ⟨A', c', rfl, hle, hC⟩, hcell⟩ := hc j l hj
        refine ⟨(A', l.length, c'), fun l' hl' => ?_⟩
        injection hl' with hl'
        subst hl'
        refine ⟨⟨rfl, hle, hC⟩, ?_⟩
        have := hcell 0 _ rfl
        rw [show j * (Kd.slice 3 (Kd.int .i64)).sz + 0 = j from by show j * 1 + 0 = j; omega] at this
        exact this
    refine ⟨(List.range n).map (fun j => (hex j).choose), ⟨by simp, h2, fun _ => ⟨ad, rfl, ?_⟩⟩, by simp [h1], ?_⟩
    · intro j p hj
      obtain ⟨hjl, hje⟩ := List.getElem?_eq_some_iff.1 hj
      rw [List.length_map, List.length_range] at hjl
      rw [List.getElem_map, List.getElem_range] at hje
      subst hje
      obtain ⟨l, hl⟩ : ∃ l, ls[j]? = some l := ⟨ls[j]'(by omega), List.getElem?_eq_getElem (by omega)⟩
      refine ⟨[hv (hex j).choose], rfl, rfl, ?_⟩
      intro i u hu
      cases i with
      | zero =>
        injection hu with hu
        subst hu
        rw [show j * kh.sz + 0 = j from by show j * 1 + 0 = j; omega]
        exact ((hex j).choose_spec l hl).2
      | succ i => simp at hu
    · intro j h l hj hl
      obtain ⟨hjl, hje⟩ := List.getElem?_eq_some_iff.1 hj
      rw [List.getElem_map, List.getElem_range] at hje
      subst hje
      exact ((hex j).choose_spec _ hl).1
  · obtain rfl : n = 0 := by omega
    have : ls = [] := List.length_eq_zero_iff.1 h1
    subst this
    exact ⟨[], ⟨rfl, by omega, fun h => absurd h (by omega)⟩, rfl, fun j h l hj => by simp at hj⟩
theorem reads {W w : World} (hb : Below W.heap.size W w) {A : Option Addr} {n : Nat} {hs : List Hd} {ls : List (List Int)} (h : kh.C w A n hs) (hl : All W hs ls) : (Kd.slice 3 (Kd.int .i64)).C w A n ls := by
  obtain ⟨h1, h2, h3⟩ := h
  refine ⟨hl.1.symm.trans h1, h2, fun hn => ?_⟩
  obtain ⟨ad, rfl, hc⟩ := h3 hn
  refine ⟨ad, rfl, fun j l hj => ?_⟩
  have hjl := (List.getElem?_eq_some_iff.1 hj).1
  obtain ⟨hd, hhd⟩ : ∃ hd, hs[j]? = some hd := ⟨hs[j]'(by have := hl.1; omega), List.getElem?_eq_getElem _⟩
  obtain ⟨e1, e2, e3⟩ := hl.2 j hd l hhd hj
  obtain ⟨c, hlen, hk, hcell⟩ := hc j hd hhd
  have hk' : c = [hv hd] := hk
  subst hk'
  obtain ⟨a, m, cc⟩ := hd
  obtain rfl : m = l.length := e1
  exact ⟨[hv (a, l.length, cc)], rfl, ⟨a, cc, rfl, e2, Kd.C_below e3 hb⟩, hcell⟩
theorem all_append {W : World} {hs hs' : List Hd} {ls ls' : List (List Int)} (h : All W hs ls) (h' : All W hs' ls') : All W (hs ++ hs') (ls ++ ls') := by
  refine ⟨by rw [List.length_append, List.length_append, h.1, h'.1], fun j x y hx hy => ?_⟩
  by_cases hj : j < ls.length
  · rw [List.getElem?_append_left (by rw [h.1]; exact hj)] at hx
    rw [List.getElem?_append_left hj] at hy
    exact h.2 j x y hx hy
  · rw [List.getElem?_append_right (by rw [h.1]; omega)] at hx
    rw [List.getElem?_append_right (by omega)] at hy
    rw [h.1] at hx
    exact h'.2 _ x y hx hy
theorem infoH : (Try.prog.info? 22).map (fun i => (i.zero, i.size, i.bytes)) = some (some (.slice none 0 0), 1, 24) := by kernel_rfl
theorem small_at {W : World} {A : Option Addr} {c : Nat} {f : List (List Int)} {K : Nat} {s : Bool} (h : crossroadslaw4_Small.f K f 1000 = some s) (h0 : Kd.C (Kd.slice 3 (Kd.int .i64)) W A f.length f) (hc : f.length ≤ c) :
    Calls Try.prog 14 #[.slice A f.length c, .int .i64 1000] W fun e w' => e = .returned (.bool s) ∧ ∃ n, w' = W.drewN n := (crossroadslaw4_Small.calls K A c f 1000 s W h0 hc h).mono fun e w' ⟨he, nd, hw⟩ => ⟨he, nd, hw⟩
theorem eval_at {W : World} {A A1 : Option Addr} {c c1 : Nat} {f : List (List Int)} {m : List Bool} {s : Bool} (h : clause_Eval.f f m = some s) (h0 : Kd.C (Kd.slice 3 (Kd.int .i64)) W A f.length f) (hc : f.length ≤ c) (h1 : Kd.C Kd.bool W A1 m.length m) (hc1 : m.length ≤ c1) :
    Calls Try.prog 15 #[.slice A f.length c, .slice A1 m.length c1] W fun e w' => e = .returned (.bool s) ∧ Below W.heap.size W w' := clause_Eval.calls A c f A1 c1 m s W h0 hc h1 hc1 h
set_option maxRecDepth 100000 in
set_option maxHeartbeats 2000000 in
theorem evals_no (w : World) (A0 : Option Addr) (c0 : Nat) (f : List (List Int)) (A1 : Option Addr) (c1 : Nat) (g : List (List Int)) (A2 : Option Addr) (c2 : Nat) (m : List Bool) (hr0 : Kd.C (Kd.slice 3 (Kd.int .i64)) w A0 f.length f) (hc0 : f.length ≤ c0) (hr1 : Kd.C (Kd.slice 3 (Kd.int .i64)) w A1 g.length g) (hc1 : g.length ≤ c1)
    (K : Nat) (s1 s2 : Bool) (hA : crossroadslaw4_awake.f K = some true) (h1 : crossroadslaw4_Small.f K f 1000 = some s1) (h2 : crossroadslaw4_Small.f K g 1000 = some s2) (h : s1 = false ∨ s2 = false ∨ m.length > 300) :
    Calls Try.prog 5 #[.slice A0 f.length c0, .slice A1 g.length c1, .slice A2 m.length c2] w fun e w' => e = .returned (.bool true) ∧ Below w.heap.size w w' := by
  have hAA := Aside0.mk hA
  have h1A := Aside0.mk h1
  have h2A := Aside0.mk h2
  have HR0 := Aside0.mk hr0
  have HC0 := Aside0.mk hc0
  have HR1 := Aside0.mk hr1
  have HC1 := Aside0.mk hc1
  clear hA h1 h2 hr0 hr1 hc0 hc1
  cases s1 with
  | false =>
    clear h
    go_enter Try.func5, Try.ntmps5
    go_wp2_with (first
      | (go_at_call 9; refine (crossroadslaw4_awake.calls K true _ hAA.out).mono ?_; rintro e w1 ⟨rfl, hB1⟩; have HB1 := Aside0.mk hB1; clear hB1)
      | (go_at_call 14; (with_reducible refine (small_at h1A.out ?ra HC0.out).mono ?_); (case ra => exact Kd.C_below HR0.out HB1.out); rintro e w2 ⟨rfl, n2, hw2⟩; have HB2 : Aside0 (Below w.heap.size w w2) := ⟨by rw [hw2]; exact pw_below_drewN HB1.out n2⟩; clear hw2))
    go_ret
    exact ⟨rfl, HB2.out⟩
  | true =>
    cases s2 with
    | false =>
      clear h
      go_enter Try.func5, Try.ntmps5
      go_wp2_with (first
        | (go_at_call 9; refine (crossroadslaw4_awake.calls K true _ hAA.out).mono ?_; rintro e w1 ⟨rfl, hB1⟩; have HB1 := Aside0.mk hB1; clear hB1)
        | (go_at_call 14; (with_reducible refine (small_at h1A.out ?ra HC0.out).mono ?_); (case ra => exact Kd.C_below HR0.out HB1.out); rintro e w2 ⟨rfl, n2, hw2⟩; have HB2 : Aside0 (Below w.heap.size w w2) := ⟨by rw [hw2]; exact pw_below_drewN HB1.out n2⟩; clear hw2)
        | (go_at_call 14; (with_reducible refine (small_at h2A.out ?rb HC1.out).mono ?_); (case rb => exact Kd.C_below HR1.out HB2.out); rintro e w3 ⟨rfl, n3, hw3⟩; have HB3 : Aside0 (Below w.heap.size w w3) := ⟨by rw [hw3]; exact pw_below_drewN HB2.out n3⟩; clear hw3))
      go_ret
      exact ⟨rfl, HB3.out⟩
    | true =>
      have d1 : decide ((300 : Int) < (m.length : Int)) = true := decide_eq_true (by simp at h; omega)
      clear h
      go_enter Try.func5, Try.ntmps5
      go_wp2_with (first
        | (go_at_call 9; refine (crossroadslaw4_awake.calls K true _ hAA.out).mono ?_; rintro e w1 ⟨rfl, hB1⟩; have HB1 := Aside0.mk hB1; clear hB1)
        | (go_at_call 14; (with_reducible refine (small_at h1A.out ?ra HC0.out).mono ?_); (case ra => exact Kd.C_below HR0.out HB1.out); rintro e w2 ⟨rfl, n2, hw2⟩; have HB2 : Aside0 (Below w.heap.size w w2) := ⟨by rw [hw2]; exact pw_below_drewN HB1.out n2⟩; clear hw2)
        | (go_at_call 14; (with_reducible refine (small_at h2A.out ?rb HC1.out).mono ?_); (case rb => exact Kd.C_below HR1.out HB2.out); rintro e w3 ⟨rfl, n3, hw3⟩; have HB3 : Aside0 (Below w.heap.size w w3) := ⟨by rw [hw3]; exact pw_below_drewN HB2.out n3⟩; clear hw3))
      go_ret
      exact ⟨rfl, HB3.out⟩
set_option maxRecDepth 100000 in
set_option maxHeartbeats 4000000 in
theorem evals_yes (w : World) (A0 : Option Addr) (c0 : Nat) (f : List (List Int)) (A1 : Option Addr) (c1 : Nat) (g : List (List Int)) (A2 : Option Addr) (c2 : Nat) (m : List Bool) (hr0 : Kd.C (Kd.slice 3 (Kd.int .i64)) w A0 f.length f) (hc0 : f.length ≤ c0) (hr1 : Kd.C (Kd.slice 3 (Kd.int .i64)) w A1 g.length g) (hc1 : g.length ≤ c1) (hr2 : Kd.C Kd.bool w A2 m.length m) (hc2 : m.length ≤ c2)
    (K : Nat) (hA : crossroadslaw4_awake.f K = some true) (h1 : crossroadslaw4_Small.f K f 1000 = some true) (h2 : crossroadslaw4_Small.f K g 1000 = some true) (hm : m.length ≤ 300) (hfl : f.length ≤ 1048576) (hgl : g.length ≤ 1048576) (a b : Bool)
    (ha : clause_Eval.f f m = some a) (hb : clause_Eval.f g m = some b) (hab : clause_Eval.f (f ++ g) m = some (a && b)) :
    Calls Try.prog 5 #[.slice A0 f.length c0, .slice A1 g.length c1, .slice A2 m.length c2] w fun e w' => e = .returned (.bool true) ∧ Below w.heap.size w w' := by
  obtain ⟨hsF, hkF, hallF⟩ := heads hr0
  obtain ⟨hsG, hkG, hallG⟩ := heads hr1
  obtain ⟨fg, hfg⟩ : ∃ fg, f ++ g = fg := ⟨_, rfl⟩
  have hall0 := all_append hallF hallG
  rw [hfg] at hall0 hab
  have hall := Aside0.mk hall0
  have hlen8 : Aside0 ((hsF ++ hsG).length = fg.length) := ⟨hall0.1⟩
  clear hall0 hfg
  have hlF : Aside0 (hsF.length = f.length) := ⟨hallF.1⟩
  have hlG : Aside0 (hsG.length = g.length) := ⟨hallG.1⟩
  have HkF := Aside0.mk hkF
  have HkG := Aside0.mk hkG
  have d1 : decide ((300 : Int) < (m.length : Int)) = false := decide_eq_false (by omega)
  have hAA := Aside0.mk hA
  have h1A := Aside0.mk h1
  have h2A := Aside0.mk h2
  have HR0 := Aside0.mk hr0
  have HC0 := Aside0.mk hc0
  have HR1 := Aside0.mk hr1
  have HC1 := Aside0.mk hc1
  have HR2 := Aside0.mk hr2
  have HC2 := Aside0.mk hc2
  have haA := Aside0.mk ha
  have hbA := Aside0.mk hb
  have habA := Aside0.mk hab
  have hL : Aside0 (f.length ≤ 1048576 ∧ g.length ≤ 1048576) := ⟨hfl, hgl⟩
  clear hA h1 h2 hr0 hr1 hc0 hc1 hr2 hc2 ha hb hab hkF hkG hallF hallG hfl hgl hm
  go_enter Try.func5, Try.ntmps5
  go_wp2_with (first
    | (go_at_call 9; refine (crossroadslaw4_awake.calls K true _ hAA.out).mono ?_; rintro e w1 ⟨rfl, hB1⟩; have HB1 := Aside0.mk hB1; clear hB1)
    | (go_at_call 14; (with_reducible refine (small_at h1A.out ?ra HC0.out).mono ?_); (case ra => exact Kd.C_below HR0.out HB1.out); rintro e w2 ⟨rfl, n2, hw2⟩; have HB2 : Aside0 (Below w.heap.size w w2) := ⟨by rw [hw2]; exact pw_below_drewN HB1.out n2⟩; clear hw2)
    | (go_at_call 14; (with_reducible refine (small_at h2A.out ?rb HC1.out).mono ?_); (case rb => exact Kd.C_below HR1.out HB2.out); rintro e w3 ⟨rfl, n3, hw3⟩; have HB3 : Aside0 (Below w.heap.size w w3) := ⟨by rw [hw3]; exact pw_below_drewN HB2.out n3⟩; clear hw3)
    | (go_at_call 15; (with_reducible refine (eval_at haA.out ?rc HC0.out ?rd HC2.out).mono ?_); (case rc => exact Kd.C_below HR0.out HB3.out); (case rd => exact Kd.C_below HR2.out HB3.out); rintro e w4 ⟨rfl, hB4⟩; have HB4 := Aside0.mk (HB3.out.trans (hB4.mono HB3.out.size)); clear hB4)
    | (go_at_call 15; (with_reducible refine (eval_at hbA.out ?re HC1.out ?rf HC2.out).mono ?_); (case re => exact Kd.C_below HR1.out HB4.out); (case rf => exact Kd.C_below HR2.out HB4.out); rintro e w5 ⟨rfl, hB5⟩; have HB5 := Aside0.mk (HB4.out.trans (hB5.mono HB4.out.size)); clear hB5)
    | ((with_reducible refine gate_dst (N := 31) rfl ?_); refine Kd.R_lit kh (w0 := w) w.heap.size 22 ?hg (N := 31) ?hd (xs := ([] : List Hd)) (inner := []) (ok := fun _ => True) (okp := fun _ => True) ?hr ?hp (fun _ hk => hk) trivial HB5.out HB5.out.size (by simp) ?_; (case hd => rfl); (case hg => rfl); (case hr => first | (go_simp; done) | (go_simp; rfl)); (case hp => exact (Reps.none _ _)); intro v31 w6 hR6 hB6 _ _)
    | ((with_reducible refine gate_builtin (b := .append) (xs := #[.tmp 31, .tmp 32]) rfl ?_); at_builtin; refine Kd.R_append_rows kh (Rr := fun x cs => cs = [hv x]) (w0 := w) w.heap.size rfl (.tmp 31) (.tmp 32) 29 22 (.slice none 0 0) 24 rfl Try.underlying29 infoH rfl (by decide) (by decide) v31 [] hsF A0 f.length c0 (fun _ => True) (fun _ => False) rfl rfl hR6 ?aR (fun _ _ h => h) (fun _ h => h.elim) (fun _ _ => trivial) hB6 hB6.size ?aL ?_; (case aR => exact Kd.C_below HkF.out hB6); (case aL => have := hL.out; simp only [List.length_nil]; omega); intro v33 w7 hR7 hB7 _ _; rw [List.nil_append] at hR7)
    | ((with_reducible refine gate_builtin (b := .append) (xs := #[.tmp 33, .tmp 34]) rfl ?_); at_builtin; refine Kd.R_append_rows kh (Rr := fun x cs => cs = [hv x]) (w0 := w) w.heap.size rfl (.tmp 33) (.tmp 34) 29 22 (.slice none 0 0) 24 rfl Try.underlying29 infoH rfl (by decide) (by decide) v33 hsF hsG A1 g.length c1 (fun _ => True) (fun _ => False) rfl rfl hR7 ?bR (fun _ _ h => h) (fun _ h => h.elim) (fun _ _ => trivial) hB7 hB7.size ?bL ?_; (case bR => exact Kd.C_below HkG.out hB7); (case bL => have := hL.out; rw [hlF.out]; omega); intro v35 w8 hR8 hB8 _ _; obtain ⟨A8, c8, e8, hc8, hC8⟩ := Kd.R_reads hR8; subst e8; rw [hlen8.out] at hc8 hC8; rw [hlen8.out])
    | (go_at_call 15; (with_reducible refine (eval_at habA.out ?rg hc8 ?rh HC2.out).mono ?_); (case rg => exact reads hB8 hC8 hall.out); (case rh => exact Kd.C_below HR2.out hB8); rintro e w9 ⟨rfl, hB9⟩))
  all_goals (go_ret; exact ⟨by cases a <;> cases b <;> rfl, hB8.trans (hB9.mono hB8.size)⟩)
theorem evals_any (w : World) (A0 : Option Addr) (c0 : Nat) (f : List (List Int)) (A1 : Option Addr) (c1 : Nat) (g : List (List Int)) (A2 : Option Addr) (c2 : Nat) (m : List Bool) (hr0 : Kd.C (Kd.slice 3 (Kd.int .i64)) w A0 f.length f) (hc0 : f.length ≤ c0) (hr1 : Kd.C (Kd.slice 3 (Kd.int .i64)) w A1 g.length g) (hc1 : g.length ≤ c1) (hr2 : Kd.C Kd.bool w A2 m.length m) (hc2 : m.length ≤ c2)
    (hf : ∀ c ∈ f, ∀ v ∈ c, (Lit.int .i64 v).wf = true) (hg : ∀ c ∈ g, ∀ v ∈ c, (Lit.int .i64 v).wf = true) (hfl : f.length ≤ 1048576) (hgl : g.length ≤ 1048576) (hm : m.length ≤ 140737488351232) :
    Calls Try.prog 5 #[.slice A0 f.length c0, .slice A1 g.length c1, .slice A2 m.length c2] w fun e w' => e = .returned (.bool true) ∧ Below w.heap.size w w' := by
  obtain ⟨Ka, hA⟩ := awake_is
  obtain ⟨s1, Ks, hS⟩ := small_some (show f.length ≤ 9223372036854775807 by omega) 1000
  obtain ⟨s2, Kt, hT⟩ := small_some (show g.length ≤ 9223372036854775807 by omega) 1000
  have hA' := hA (Ka + Ks + Kt) (by omega)
  have hS' := hS (Ka + Ks + Kt) (by omega)
  have hT' := hT (Ka + Ks + Kt) (by omega)
  by_cases h : s1 = false ∨ s2 = false ∨ m.length > 300
  · exact evals_no w A0 c0 f A1 c1 g A2 c2 m hr0 hc0 hr1 hc1 _ s1 s2 hA' hS' hT' h
  · have e1 : s1 = true := by
      cases s1 with
      | false => exact absurd (.inl rfl) h
      | true => rfl
    have e2 : s2 = true := by
      cases s2 with
      | false => exact absurd (.inr (.inl rfl)) h
      | true => rfl
    subst e1
    subst e2
    have hfw : ∀ c ∈ f, ∀ v ∈ c, W64 v := fun c hc v hv => wf64 (hf c hc v hv)
    have hgw : ∀ c ∈ g, ∀ v ∈ c, W64 v := fun c hc v hv => wf64 (hg c hc v hv)
    refine evals_yes w A0 c0 f A1 c1 g A2 c2 m hr0 hc0 hr1 hc1 hr2 hc2 _ hA' hS' hT' (by omega) hfl hgl (evalB m f) (evalB m g) (eval_is hfw hm) (eval_is hgw hm) ?_
    rw [eval_is (f := f ++ g) (fun c hc => (List.mem_append.1 hc).elim (hfw c) (hgw c)) hm]
    unfold evalB
    rw [List.all_append]
end Go.Proofs.Ytlfghalebkgclaa.EvalsW
