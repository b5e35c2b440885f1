/- Joined by a program of this session out of: HpP, HpQ. -/
import Derived.Test.YtnhpfdnhnocgjaaHpO
import Derived.Test.YtnhpfdnhnocgjaaLemA
/- Count and Solve: walked over what the solver's parts answer. -/
namespace Go.Proofs.Ytnhpfdnhnocgjaa.S
open Go.RowKit Go.Proofs.Ytnhpfdnhnocgjaa.D Go.Proofs.Ytnhpfdnhnocgjaa.Lem Go.Proofs.YtnhpfdnhnocgjaaW.PrintWords Go.Proofs.YtnhpfdnhnocgjaaW.PrintLast Go.Proofs.YtnhpfdnhnocgjaaW.PrintMore
set_option linter.unusedVariables false
set_option linter.unusedSimpArgs false
theorem mayB_iff (n : Int) (F : List (List Int)) : mayB n F = true ↔ 0 ≤ n ∧ n ≤ 65536 ∧ ∀ d ∈ F, ∀ x ∈ d, okL n.toNat x := by
  unfold mayB
  rw [Bool.and_eq_true, Bool.and_eq_true, decide_eq_true_eq, decide_eq_true_eq, List.all_eq_true]
  constructor
  · rintro ⟨h1, h2, h3⟩
    refine ⟨h1, h2, fun d hd x hx => ?_⟩
    have := List.all_eq_true.1 (h3 d hd) x hx
    unfold litOk num0 at this
    simp only [Bool.and_eq_true, decide_eq_true_eq] at this
    unfold okL
    split at this <;> omega
  · rintro ⟨h1, h2, h3⟩
    refine ⟨h1, h2, fun d hd => List.all_eq_true.2 fun x hx => ?_⟩
    have := h3 d hd x hx
    unfold okL at this
    unfold litOk num0
    simp only [Bool.and_eq_true, decide_eq_true_eq]
    split <;> omega
/-- What comes in. -/
structure In (w : World) (A : Option Addr) (c : Nat) (F : List (List Int)) : Prop where
  row : Kd.C (Kd.slice 3 (Kd.int .i64)) w A F.length F
  cap : F.length ≤ c
  came : Came F
  len : F.length ≤ 5864062014804
  rows : ∀ d ∈ F, d.length < 17592186044416
theorem In.below {w w1 : World} {A : Option Addr} {c : Nat} {F : List (List Int)} (h : In w A c F) (hb : Below w.heap.size w w1) : In w1 A c F := ⟨Kd.C_below h.row hb, h.cap, h.came, h.len, h.rows⟩
theorem may18 {w : World} {A : Option Addr} {c : Nat} {F : List (List Int)} (h : In w A c F) (n : Int) : Calls Try.prog 18 #[.int .i64 n, .slice A F.length c] w fun e w' => e = .returned (.bool (mayB n F)) ∧ Below w.heap.size w w' := by
  obtain ⟨k, hk⟩ := (cmay_is n F h.came)
  exact P.clause_May.calls k n A c F _ w h.row h.cap (hk k (Nat.le_refl _))
theorem made12 {w : World} {A : Option Addr} {c : Nat} {F : List (List Int)} (h : In w A c F) {n : Int} (hm : mayB n F = true) : Calls Try.prog 19 #[.int .i64 n, .slice A F.length c] w (MadeP w n.toNat F) := by
  obtain ⟨h0, h1, h2⟩ := (mayB_iff n F).1 hm
  have := made19 n.toNat A c F h.row h.cap (by omega) h.len h2 h.rows
  rwa [Int.toNat_of_nonneg h0] at this
/-- What Count answers. -/
def countV (n : Int) (F : List (List Int)) (most : Int) : Int × Int := if mayB n F = true ∧ 0 ≤ most ∧ n ≤ 24 then (minI (cnt n.toNat F [] : Int) most, 0) else (0, 1)
set_option maxRecDepth 100000 in
set_option maxHeartbeats 4000000 in
theorem count16 {w : World} {A : Option Addr} {c : Nat} {F : List (List Int)} (h : In w A c F) (n most : Int) (hmost : most ≤ 9223372036854775807) :
    Calls Try.prog 16 #[.int .i64 n, .slice A F.length c, .int .i64 most] w fun e w' => e = .returned (.tuple #[.int .i64 (countV n F most).1, .int .i64 (countV n F most).2]) ∧ Below w.heap.size w w' := by
  have HI := Aside0.mk h
  have HMY := Aside0.mk (may18 h n)
  obtain ⟨b, hb⟩ : ∃ b, mayB n F = b := ⟨_, rfl⟩
  have HB := Aside0.mk hb
  rw [hb] at HMY
  obtain ⟨nF, hnF⟩ : ∃ m, F.length = m := ⟨_, rfl⟩
  have HNF := Aside0.mk hnF
  rw [hnF] at HMY ⊢
  obtain ⟨r1, hr1⟩ : ∃ r, (countV n F most).1 = r := ⟨_, rfl⟩
  obtain ⟨r2, hr2⟩ : ∃ r, (countV n F most).2 = r := ⟨_, rfl⟩
  have HV : Aside0 (countV n F most = (r1, r2)) := ⟨by rw [← hr1, ← hr2]⟩
  rw [hr1, hr2]
  clear h hb hnF hr1 hr2
  cases b with
  | false =>
    go_enter Try.func16, Try.ntmps16
    go_wp2_with (go_at_call 18; refine HMY.out.mono ?_; rintro e w1 ⟨rfl, hb1⟩; have HB1 := Aside0.mk hb1; clear hb1)
    go_ret2
    have hv := HV.out
    unfold countV at hv
    rw [if_neg (by rw [HB.out]; simp)] at hv
    injection hv with h1 h2
    subst h1 h2
    exact ⟨rfl, HB1.out⟩
  | true =>
    by_cases c1 : most < 0
    · have d1 : decide (most < 0) = true := decide_eq_true c1
      go_enter Try.func16, Try.ntmps16
      go_wp2_with (go_at_call 18; refine HMY.out.mono ?_; rintro e w1 ⟨rfl, hb1⟩; have HB1 := Aside0.mk hb1; clear hb1)
      go_ret2
      have hv := HV.out
      unfold countV at hv
      rw [if_neg (by omega)] at hv
      injection hv with h1 h2
      subst h1 h2
      exact ⟨rfl, HB1.out⟩
    · have d1 : decide (most < 0) = false := decide_eq_false c1
      by_cases c2 : 24 < n
      · have d2 : decide (24 < n) = true := decide_eq_true c2
        go_enter Try.func16, Try.ntmps16
        go_wp2_with (go_at_call 18; refine HMY.out.mono ?_; rintro e w1 ⟨rfl, hb1⟩; have HB1 := Aside0.mk hb1; clear hb1)
        go_ret2
        have hv := HV.out
        unfold countV at hv
        rw [if_neg (by omega)] at hv
        injection hv with h1 h2
        subst h1 h2
        exact ⟨rfl, HB1.out⟩
      · have d2 : decide (24 < n) = false := decide_eq_false c2
        have HMD : Aside0 (∀ W, Below w.heap.size w W → Calls Try.prog 19 #[.int .i64 n, .slice A nF c] W (MadeP W n.toNat F)) := ⟨fun W hb => by
          have := made12 (HI.out.below hb) HB.out
          rwa [HNF.out] at this⟩
        have HVV : Aside0 (countV n F most = (minI (cnt n.toNat F [] : Int) most, 0)) := ⟨by unfold countV; rw [if_pos ⟨HB.out, by omega, by omega⟩]⟩
        go_enter Try.func16, Try.ntmps16
        go_upto_region 3 with (go_at_call 18; refine HMY.out.mono ?_; rintro e w1 ⟨rfl, hb1⟩; have HB1 := Aside0.mk hb1; clear hb1)
        go_wp2_with (go_at_call 19; refine (HMD.out _ HB1.out).mono ?_; rintro e w2 ⟨B, b2, st, ow, rfl, hr, ho, hbl, hy, hno⟩; have HR := Aside0.mk (And.intro hr (And.intro ho (And.intro hbl (And.intro hy hno)))); clear hr ho hbl hy hno; cases b2)
        · go_ret2
          have hv := HV.out
          rw [HVV.out] at hv
          injection hv with h1 h2
          obtain ⟨hr, ho, hbl, hy, hno⟩ := HR.out
          have hc0 : cnt n.toNat F [] = 0 := cnt_none fun s hs _ => hno trivial s hs
          rw [hc0] at h1
          have h3 : minI ((0 : Nat) : Int) most = 0 := by unfold minI; omega
          rw [h3] at h1
          subst h1 h2
          exact ⟨rfl, HB1.out.trans (hbl.mono HB1.out.size)⟩
        · have HC : Aside0 (Calls Try.prog 22 #[.pointer (some ⟨B, 0, none⟩), .int .i64 most, .int .i64 0] w2 (CountP w2 ow B st most)) := ⟨by
            obtain ⟨hr, ho, hbl, hy, hno⟩ := HR.out
            obtain ⟨y1, y2, y3⟩ := hy trivial
            obtain ⟨z1, z2, z3, z4, z5⟩ := y3.yes rfl
            exact count22 _ rfl hr (frm := 0) ⟨y3.rb.tr, y3.rb.wa, by rw [y1]; omega, y3.rb.m, z1, z2, z4, z5⟩ (by omega) hmost⟩
          go_wp2_with (go_at_call 22; refine HC.out.mono ?_; rintro e w3 ⟨st', ow', rfl, hce, hf, hr2⟩; have HE := Aside0.mk hf; clear hce hf hr2)
          go_ret2
          have hv := HV.out
          rw [HVV.out] at hv
          injection hv with h1 h2
          obtain ⟨hr, ho, hbl, hy, hno⟩ := HR.out
          obtain ⟨y1, y2, y3⟩ := hy trivial
          have e : cnt st.n st.f st.trail = cnt n.toNat F [] := by
            rw [y1]
            refine cnt_congr fun s => ?_
            have := y3.rb.sem s
            rw [List.take_length] at this
            rw [this]
            exact ⟨fun h => ⟨h, fun x hx => nomatch hx⟩, fun h => h.1⟩
          rw [← e] at h1
          subst h1 h2
          have hb2 := HB1.out.trans (hbl.mono HB1.out.size)
          exact ⟨rfl, hb2.trans ((HE.out.below hbl.size ho).mono HB1.out.size)⟩
end Go.Proofs.Ytnhpfdnhnocgjaa.S
/- Solve: walked over what the solver's parts answer. -/
namespace Go.Proofs.Ytnhpfdnhnocgjaa.S
open Go.RowKit Go.Proofs.Ytnhpfdnhnocgjaa.D Go.Proofs.Ytnhpfdnhnocgjaa.Lem Go.Proofs.YtnhpfdnhnocgjaaW.PrintWords Go.Proofs.YtnhpfdnhnocgjaaW.PrintLast Go.Proofs.YtnhpfdnhnocgjaaW.PrintMore
set_option linter.unusedVariables false
set_option linter.unusedSimpArgs false
/-- Truth values by place. -/
def bitsOf (a : List Bool) : Nat → Bool := fun k => a.getD (k - 1) false
/-- What Solve may answer. -/
def SolveR (n : Int) (F : List (List Int)) (budget r : Int) (a : List Bool) (code : Int) : Prop :=
  (¬ (mayB n F = true ∧ 0 ≤ budget) ∧ r = 0 ∧ a = [] ∧ code = 1) ∨ (mayB n F = true ∧ 0 ≤ budget ∧ code = 0 ∧
    ((r = 1 ∧ a.length = n.toNat ∧ satF (bitsOf a) F = true) ∨ (r = 2 ∧ a = [] ∧ ∀ s, satF s F = false) ∨ (r = 3 ∧ a = [] ∧ budget < 1099511627776 ∧ budget + 1 ≤ (A1 n.toNat : Int) ∧ F ≠ [])))
def SolveP (w : World) (n : Int) (F : List (List Int)) (budget : Int) (e : Ending) (w' : World) : Prop := ∃ r v a code, e = .returned (.tuple #[.int .i64 r, v, .int .i64 code]) ∧ Kd.R Kd.bool 4 w' w.heap.size (fun _ => True) v a ∧ Below w.heap.size w w' ∧ SolveR n F budget r a code
theorem SolveP.nil {w w' : World} {n : Int} {F : List (List Int)} {budget r code : Int} (hb : Below w.heap.size w w') (h : SolveR n F budget r [] code) : SolveP w n F budget (.returned (.tuple #[.int .i64 r, .slice none 0 0, .int .i64 code])) w' := ⟨r, .slice none 0 0, [], code, rfl, Kd.R_nil _ _ _ _ _, hb, h⟩
/-- A literal's truth at a place. -/
def bitAt (st : St) (k : Nat) : Bool := st.set.getD k false && st.val.getD k false
theorem bits_ext {st : St} (hT : Tr st) {a : List Bool} (ha : a.length = st.n) (h : ∀ k, k < st.n → a.getD k false = bitAt st (k + 1)) : Ext (bitsOf a) st.trail := by
  intro x hx
  have ho := hT.ok x hx
  have h1 := (hT.hs x.natAbs).2 (List.mem_map.2 ⟨x, hx, rfl⟩)
  have h2 := hT.hv x hx
  have h3 := h (x.natAbs - 1) (by have := ho.1; have := ho.2; omega)
  rw [show x.natAbs - 1 + 1 = x.natAbs by have := ho.1; omega] at h3
  unfold lit bitsOf
  rw [h3]
  unfold bitAt
  rw [h1, h2, Bool.true_and]
  simp
theorem ne_of_len {α : Type} {F : List α} {m : Nat} (h : m ≤ F.length) (hz : 0 < m) : F ≠ [] := fun e => by rw [e] at h; exact absurd h (by simp; omega)
/-- The truth values while they are read out. -/
def BitL (w w3 : World) (g N : Nat) (st : St) (i : Nat) (wr : World) : Prop := (∃ L : List Bool, L.length = N ∧ (∀ k, k < i → L.getD k false = bitAt st (k + 1)) ∧ Kd.R Kd.bool 4 wr w.heap.size (fun _ => True) (.slice (some ⟨g, 0, none⟩) N N) L) ∧ Below w3.heap.size w3 wr
theorem BitL.step {w w3 : World} {g N : Nat} {st : St} {i : Nat} {wr : World} (h : BitL w w3 g N st i wr) (hi : i < N) (hg : w3.heap.size ≤ g) {b : Bool} (hb : bitAt st (i + 1) = b) : BitL w w3 g N st (i + 1) (wr.setCell ⟨g, i, none⟩ (.bool b)) := by
  obtain ⟨⟨L, l1, l2, l3⟩, hbl⟩ := h
  refine ⟨⟨L.set i b, by rw [List.length_set]; exact l1, fun k hk => ?_, ?_⟩, Below.setCell hbl hg _⟩
  · by_cases e : i = k
    · subst e
      rw [D.getD_set_self (by omega), hb]
    · rw [D.getD_set_ne e]
      exact l2 k (by omega)
  · have := Kd.R_putn l3 (i : Int) b
    rw [Int.toNat_natCast] at this
    exact this
set_option maxRecDepth 100000 in
set_option maxHeartbeats 4000000 in
theorem solve12 {w : World} {A : Option Addr} {c : Nat} {F : List (List Int)} (h : In w A c F) (n budget : Int) :
    Calls Try.prog 12 #[.int .i64 n, .slice A F.length c, .int .i64 budget] w (SolveP w n F budget) := by
  have HI := Aside0.mk h
  have HMY := Aside0.mk (may18 h n)
  obtain ⟨b, hb⟩ : ∃ b, mayB n F = b := ⟨_, rfl⟩
  have HB := Aside0.mk hb
  rw [hb] at HMY
  obtain ⟨nF, hnF⟩ : ∃ m, F.length = m := ⟨_, rfl⟩
  have HNF := Aside0.mk hnF
  rw [hnF] at HMY ⊢
  clear h hb hnF
  cases b with
  | false =>
    go_enter Try.func12, Try.ntmps12
    go_wp2_with (go_at_call 18; refine HMY.out.mono ?_; rintro e w1 ⟨rfl, hb1⟩; have HB1 := Aside0.mk hb1; clear hb1)
    go_ret3
    exact SolveP.nil HB1.out (.inl ⟨by rw [HB.out]; simp, rfl, rfl, rfl⟩)
  | true =>
    by_cases c1 : budget < 0
    · have d1 : decide (budget < 0) = true := decide_eq_true c1
      go_enter Try.func12, Try.ntmps12
      go_wp2_with (go_at_call 18; refine HMY.out.mono ?_; rintro e w1 ⟨rfl, hb1⟩; have HB1 := Aside0.mk hb1; clear hb1)
      go_ret3
      exact SolveP.nil HB1.out (.inl ⟨by omega, rfl, rfl, rfl⟩)
    · have d1 : decide (budget < 0) = false := decide_eq_false c1
      obtain ⟨N, rfl⟩ : ∃ N : Nat, n = (N : Int) := ⟨n.toNat, by have := ((mayB_iff n F).1 HB.out).1; omega⟩
      have hN : N ≤ 65536 := by have := ((mayB_iff _ F).1 HB.out).2.1; omega
      have HMD : Aside0 (∀ W, Below w.heap.size w W → Calls Try.prog 19 #[.int .i64 (N : Int), .slice A nF c] W (MadeP W N F)) := ⟨fun W hb => by
        have := made12 (HI.out.below hb) HB.out
        rwa [HNF.out] at this⟩
      go_enter Try.func12, Try.ntmps12
      go_upto_region 3 with (go_at_call 18; refine HMY.out.mono ?_; rintro e w1 ⟨rfl, hb1⟩; have HB1 := Aside0.mk hb1; clear hb1)
      go_upto_region 6 with (go_at_call 19; refine (HMD.out _ HB1.out).mono ?_; rintro e w2 ⟨B, b2, st, ow, rfl, hr, ho, hbl, hy, hno⟩; have HR := Aside0.mk (And.intro hr (And.intro ho (And.intro hbl (And.intro hy hno)))); clear hr ho hbl hy hno; cases b2)
      · go_ret3
        obtain ⟨hr, ho, hbl, hy, hno⟩ := HR.out
        exact SolveP.nil (HB1.out.trans (hbl.mono HB1.out.size)) (.inr ⟨HB.out, by omega, rfl, .inr (.inl ⟨rfl, rfl, fun s => by
          cases hs : satF s F with
          | false => rfl
          | true => exact absurd hs (fun hs => hno trivial s hs)⟩)⟩)
      · have HC : Aside0 (Calls Try.prog 20 #[.pointer (some ⟨B, 0, none⟩), .int .i64 budget] w2 (RunP w2 ow B F st.n st.f.length budget)) := ⟨by
          obtain ⟨hr, ho, hbl, hy, hno⟩ := HR.out
          obtain ⟨y1, y2, y3⟩ := hy trivial
          exact run20 hr y3 (by omega)⟩
        go_upto_region 7 with (go_at_call 20; refine HC.out.mono ?_; rintro e w3 ⟨r, st', ow', rfl, hr2, hf, hn2, ht2, hcase⟩)
        have HB3 : Aside0 (Below w.heap.size w w3) := ⟨by
          obtain ⟨hr, ho, hbl, hy, hno⟩ := HR.out
          exact (HB1.out.trans (hbl.mono HB1.out.size)).trans ((hf.below hbl.size ho).mono HB1.out.size)⟩
        have HY : Aside0 (st.n = N ∧ st.f.length ≤ F.length) := ⟨by
          obtain ⟨hr, ho, hbl, hy, hno⟩ := HR.out
          obtain ⟨y1, y2, y3⟩ := hy trivial
          exact ⟨y1, y2⟩⟩
        rw [HY.out.1] at hn2
        have HT := Aside0.mk (And.intro ht2 hn2)
        have HR2 := Aside0.mk hr2
        clear hr2 hf hn2 ht2 HR HC HMD HMY
        rcases hcase with ⟨rfl, hs⟩ | ⟨rfl, hs⟩ | ⟨rfl, hx, hy, hz⟩
        · have HS := Aside0.mk hs
          clear hs
          have hmk : ∀ W : World, (Instr.makeSlice 25 (.int .i64 (N : Int)) (.int .i64 (N : Int))).run Try.prog W = .ok (.slice (some ⟨W.heap.size, 0, none⟩) N N) (W.alloc (.cells (madeCells #[.bool false] N) 4)) := fun W => run_make_row' (P := Try.prog) 25 4 (.bool false) 1 Try.underlying25 P.info4 rfl .i64 .i64 N (by omega) (by omega) W
          have HCELL : Aside0 (∃ gv cv gs cs, w3.cell? ⟨B, 3, none⟩ = some (.slice (some ⟨gv, 0, none⟩) (N + 1) cv) ∧ w3.cell? ⟨B, 4, none⟩ = some (.slice (some ⟨gs, 0, none⟩) (N + 1) cs) ∧ ∀ i : Nat, i < N + 1 → w3.cell? ⟨gv, i, none⟩ = some (.bool (st'.val.getD i false)) ∧ w3.cell? ⟨gs, i, none⟩ = some (.bool (st'.set.getD i false))) := ⟨by
            obtain ⟨vf, vi, vv, vs, vt, fs, is, h⟩ := HR2.out
            obtain ⟨hT, hn⟩ := HT.out
            have lv := hT.lv
            have ls := hT.ls
            rw [hn] at lv ls
            obtain ⟨c0, c1, c2, c3, c4, c5, c6, c7⟩ := cells51 h
            obtain ⟨gv, cv, rfl, _, _, hcv⟩ := h.v.boolCell (by omega)
            obtain ⟨gs, cs, rfl, _, _, hcs⟩ := h.s.boolCell (by omega)
            rw [lv] at c3 hcv
            rw [ls] at c4 hcs
            exact ⟨gv, cv, gs, cs, c3, c4, fun i hi => ⟨(hcv i hi).1, (hcs i hi).1⟩⟩⟩
          obtain ⟨gv, cv, gs, cs, k3, k4, hkc⟩ := HCELL.out
          have HK := Aside0.mk (And.intro k3 (And.intro k4 hkc))
          clear k3 k4 hkc HCELL HR2
          go_upto_region 10 with fail
          have HROW : Aside0 (∃ L : List Bool, L.length = N ∧ (∀ k, k < 0 → L.getD k false = bitAt st' (k + 1)) ∧ Kd.R Kd.bool 4 (w3.alloc (.cells (madeCells #[.bool false] N) 4)) w.heap.size (fun _ => True) (.slice (some ⟨w3.heap.size, 0, none⟩) N N) L) := ⟨List.replicate N false, List.length_replicate, fun k hk => absurd hk (Nat.not_lt_zero _), by
            have hb := blk_new w3 (.cells (madeCells #[.bool false] N) 4)
            rw [made_rep] at hb ⊢
            have hsz := HB3.out.size
            refine Kd.R_of_own ⟨by unfold encs; rw [List.length_map, Nat.mul_one], .inr ⟨w3.heap.size, N, _, by rw [List.length_replicate], hsz, hb, by rw [List.length_replicate]; exact Nat.le_refl _, by unfold maxLen; omega, by rw [Nat.mul_one]; simp, ?_⟩⟩ (fun k hk => trivial)
            rw [Nat.mul_one]
            unfold encs
            rw [List.map_replicate, List.length_replicate]
            exact List.take_of_length_le (by simp)⟩
          have HBA : Aside0 (Below w3.heap.size w3 (w3.alloc (.cells (madeCells #[.bool false] N) 4))) := ⟨below_alloc (Below.refl _ _) _⟩
          obtain ⟨w4, hw4⟩ : ∃ w4, w3.alloc (.cells (madeCells #[.bool false] N) 4) = w4 := ⟨_, rfl⟩
          rw [hw4] at HROW HBA ⊢
          clear hw4 hmk
          obtain ⟨g, hg⟩ : ∃ g, w3.heap.size = g := ⟨_, rfl⟩
          rw [hg] at HROW ⊢
          have HGG := Aside0.mk hg
          clear hg
          go_wp2_with fail
          go_loopg [40] N (fun kq v40 wr => ∃ i : Nat, v40 = .int .i64 (i : Int) ∧ i + kq = N ∧ Aside0 (BitL w w3 g N st' i wr))
          case atStart => exact ⟨0, rfl, by omega, ⟨HROW.out, HBA.out⟩⟩
          case round =>
            clear HROW HBA
            obtain ⟨i, rfl, hi, HM⟩ := hrel
            by_cases hlt : (i : Int) < (N : Int)
            · obtain ⟨kq, rfl⟩ : ∃ k, gk = k + 1 := ⟨gk - 1, by omega⟩
              have hw : IntKind.i64.wrap ((i : Int) + 1) = ((i + 1 : Nat) : Int) := by rw [IntWalk.i64_in _ (by omega)]; rfl
              obtain ⟨⟨L, l1, l2, l3⟩, hbl⟩ := HM.out
              obtain ⟨k3, k4, hkc⟩ := HK.out
              obtain ⟨k5, k6⟩ := hkc (i + 1) (by omega)
              have y3 := cell_later hbl k3
              have y4 := cell_later hbl k4
              have y5 := cell_later hbl k5
              have y6 := cell_later hbl k6
              obtain ⟨y7, y8⟩ := Kd.R_celln false l3 (i : Int) (by omega) (by omega)
              rw [Int.toNat_natCast] at y7 y8
              have hbit : bitAt st' (i + 1) = (st'.set.getD (i + 1) false && st'.val.getD (i + 1) false) := rfl
              obtain ⟨b1, hb1⟩ : ∃ b, st'.set.getD (i + 1) false = b := ⟨_, rfl⟩
              obtain ⟨b2, hb2⟩ : ∃ b, st'.val.getD (i + 1) false = b := ⟨_, rfl⟩
              rw [hb1] at y6 hbit
              rw [hb2] at y5 hbit
              obtain ⟨b3, hb3⟩ : ∃ b, rdOf false L (i : Int) = b := ⟨_, rfl⟩
              rw [hb3] at y7
              have HBIT := Aside0.mk hbit
              have hb0 : (0 : Int) ≤ (i : Int) := by omega
              have p0 : (0 : Int) ≤ ((i + 1 : Nat) : Int) := by omega
              have p1 : ((i + 1 : Nat) : Int) < ((N + 1 : Nat) : Int) := by omega
              clear l1 l2 l3 hbl k3 k4 hkc k5 k6 hb1 hb2 hb3 hbit
              cases b1 with
              | false =>
                go_wp2_with fail
                go_roundg kq
                case measure => omega
                case rel => exact ⟨i + 1, rfl, by omega, ⟨HM.out.step (by omega) (by rw [HGG.out]; exact Nat.le_refl _) HBIT.out⟩⟩
              | true =>
                go_wp2_with fail
                go_roundg kq
                case measure => omega
                case rel => exact ⟨i + 1, rfl, by omega, ⟨HM.out.step (by omega) (by rw [HGG.out]; exact Nat.le_refl _) HBIT.out⟩⟩
            · obtain rfl : i = N := by omega
              go_wp2_with fail
              go_ret3
              obtain ⟨⟨L, l1, l2, l3⟩, hbl⟩ := HM.out
              refine ⟨1, _, L, 0, rfl, l3, HB3.out.trans (hbl.mono HB3.out.size), .inr ⟨HB.out, by omega, rfl, .inl ⟨rfl, by rw [l1]; omega, ?_⟩⟩⟩
              exact HS.out _ (bits_ext HT.out.1 (by rw [l1, HT.out.2]) (by rw [HT.out.2]; exact l2))
        · have HS := Aside0.mk hs
          clear hs
          go_wp2_with fail
          go_ret3
          exact SolveP.nil HB3.out (.inr ⟨HB.out, by omega, rfl, .inr (.inl ⟨rfl, rfl, fun s => by
            cases hs : satF s F with
            | false => rfl
            | true => exact absurd hs (fun hs => HS.out s hs)⟩)⟩)
        · have HS := Aside0.mk (And.intro hx (And.intro hy hz))
          clear hx hy hz
          go_wp2_with fail
          go_ret3
          obtain ⟨hx, hy, hz⟩ := HS.out
          obtain ⟨y1, y2⟩ := HY.out
          rw [y1] at hy
          exact SolveP.nil HB3.out (.inr ⟨HB.out, by omega, rfl, .inr (.inr ⟨rfl, rfl, hx, hy, ne_of_len y2 hz⟩)⟩)
end Go.Proofs.Ytnhpfdnhnocgjaa.S
