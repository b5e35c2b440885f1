/- The tree of names: of, above, Make, New, walked by hand. -/
import Derived.Test.YtmlnoapfhimgoaaTree
import Derived.Outline
namespace Go.Proofs.Ytmlnoapfhimgoaa.Tree
set_option linter.unusedVariables false
set_option linter.unusedSimpArgs false
open Go.RowKit Go.Maps Go.Proofs.Ytmlnoapfhimgoaa.G Go.Proofs.Ytmlnoapfhimgoaa.Q Go.Proofs.Ytmlnoapfhimgoaa.Lem Go.Proofs.YtmlnoapfhimgoaaW.PrintWords Go.Proofs.YtmlnoapfhimgoaaW.PrintLast Go.Proofs.YtmlnoapfhimgoaaW.PrintMore
theorem split_calls (a : ByteArray) (hsz : a.size ≤ 140737488351232) (w : World) : Calls Try.prog 47 #[.string a] w fun e w' => e = .returned (.tuple #[.string (splitB a).1, .string (splitB a).2]) ∧ Drawn0 w w' := by
  obtain ⟨k, hk⟩ := (split_is a hsz).rounds
  exact names_Split.calls k a _ _ w hk
theorem may_calls (a : ByteArray) (hsz : a.size ≤ 140737488351232) (w : World) : Calls Try.prog 37 #[.string a] w fun e w' => e = .returned (.bool (mayB a)) ∧ Drawn0 w w' := by
  obtain ⟨k, hk⟩ := (nmay_is a hsz).rounds
  exact names_May.calls k a _ w hk
set_option maxHeartbeats 800000 in
set_option maxRecDepth 100000 in
theorem of_calls (a : ByteArray) (hsz : a.size ≤ 140737488351232) (w : World) : Calls Try.prog 43 #[.string a] w fun e w' => e = .returned (kv (splitB a).1 (splitB a).2) ∧ Below w.heap.size w w' := by
  unfold kv
  go_enter Try.func43, Try.ntmps43
  go_wp2_with (go_at_call 47; (with_reducible refine (split_calls a hsz _).mono ?_); rintro e w' ⟨rfl, ⟨nd, rfl⟩⟩)
  refine bodyPost_ret (v := .agg #[.string (splitB a).1, .string (splitB a).2]) (by simp [results, Try.results43, go_sem]) rfl ⟨rfl, ?_⟩
  exact (((pw_below_drewN (below_alloc (Below.refl _ _) _) nd).setCell (p := ⟨w.heap.size, 0, none⟩) (Nat.le_refl _) _).setCell (p := ⟨w.heap.size, 1, none⟩) (Nat.le_refl _) _)
def aboveI (L : List Ent) (d l : ByteArray) : Int := if l.toList = ([] : List UInt8) then 65282 else if d.toList = ([] : List UInt8) then 0 else match findE L ((⟨#[]⟩ : ByteArray), d) with | none => 65282 | some x => if x = true then 0 else 65300
set_option maxHeartbeats 1600000 in
set_option maxRecDepth 100000 in
theorem above_calls (d l : ByteArray) (hd : d.size ≤ maxLen) (w : World) (g b : Nat) (L : List Ent) (hT : TreeS w b L) (c0 : w.cell? ⟨g, 0, none⟩ = some (.map (some b))) :
    Calls Try.prog 44 #[.pointer (some ⟨g, 0, none⟩), kv d l] w fun e w' => e = .returned (.int .u16 (aboveI L d l)) ∧ Below w.heap.size w w' := by
  unfold kv
  by_cases e1 : l.toList = ([] : List UInt8)
  · have hr : aboveI L d l = 65282 := if_pos e1
    rw [hr]
    have b1 : (l.toList == ([] : List UInt8)) = true := beq_iff_eq.mpr e1
    have b2 : l.toList.isEmpty = true := List.isEmpty_iff.mpr e1
    clear e1 hr hT
    go_enter Try.func44, Try.ntmps44
    go_wp2
    go_ret
    exact ⟨rfl, below_alloc (Below.refl _ _) _⟩
  · have b1 : (l.toList == ([] : List UInt8)) = false := beq_eq_false_iff_ne.mpr e1
    have b2 : l.toList.isEmpty = false := Bool.eq_false_iff.mpr (fun h_ => e1 (List.isEmpty_iff.mp h_))
    by_cases e2 : d.toList = ([] : List UInt8)
    · have hr : aboveI L d l = 0 := by unfold aboveI; rw [if_neg e1, if_pos e2]
      rw [hr]
      have b3 : (d.toList == ([] : List UInt8)) = true := beq_iff_eq.mpr e2
      have b4 : d.toList.isEmpty = true := List.isEmpty_iff.mpr e2
      clear e1 e2 hr hT
      go_enter Try.func44, Try.ntmps44
      go_wp2
      go_ret
      exact ⟨rfl, below_alloc (Below.refl _ _) _⟩
    · have hr : aboveI L d l = (match findE L ((⟨#[]⟩ : ByteArray), d) with | none => 65282 | some x => if x = true then 0 else 65300) := by unfold aboveI; rw [if_neg e1, if_neg e2]
      have b3 : (d.toList == ([] : List UInt8)) = false := beq_eq_false_iff_ne.mpr e2
      have b4 : d.toList.isEmpty = false := Bool.eq_false_iff.mpr (fun h_ => e2 (List.isEmpty_iff.mp h_))
      clear e1 e2
      rw [hr]
      clear hr
      obtain ⟨q, hq⟩ : ∃ q, findE L ((⟨#[]⟩ : ByteArray), d) = q := ⟨_, rfl⟩
      have lk : ∀ W, Below w.heap.size w W → ∃ n : Int, (Instr.lookup 66 (.map (some b)) (.agg #[.string (⟨#[]⟩ : ByteArray), .string d]) true).run Try.prog W = .ok (.tuple #[.agg #[.int .i64 n, .bool (q.getD false)], .bool q.isSome]) W := fun W hW => by
        have h := (hT.below hW).look (⟨#[]⟩ : ByteArray) d (by decide) hd
        rw [hq] at h
        exact h
      rw [hq]
      clear hq hT
      have LK := Aside0.mk lk
      clear lk
      have hcg : ∀ o, (w.alloc o).cell? ⟨g, 0, none⟩ = some (.map (some b)) := fun o => pw_cell_below (below_alloc (Below.refl _ _) o) c0
      have hcg2 : ∀ o o2, ((w.alloc o).alloc o2).cell? ⟨g, 0, none⟩ = some (.map (some b)) := fun o o2 => pw_cell_below (below_alloc (below_alloc (Below.refl _ _) o) o2) c0
      obtain ⟨n0, h0⟩ := LK.out _ (below_drew (below_alloc (Below.refl _ _) (.cells #[.string d, .string l] 81)))
      obtain ⟨n1, h1⟩ := LK.out _ (below_drew (below_alloc (below_alloc (Below.refl _ _) (.cells #[.string d, .string l] 81)) (.cells #[.int .i64 0, .bool false] 85)))
      rcases q with _ | x
      · go_enter Try.func44, Try.ntmps44
        go_wp2
        go_region
        all_goals
          go_wp2
          go_ret
          exact ⟨rfl, by repeat (first | exact Below.refl _ _ | apply below_alloc | apply pw_below_drewN | apply below_drew | (refine Below.setCell (p := ⟨_, _, none⟩) ?_ (by simp) _))⟩
      · cases x
        · go_enter Try.func44, Try.ntmps44
          go_wp2
          go_region
          all_goals
            go_wp2
            go_ret
            exact ⟨rfl, by repeat (first | exact Below.refl _ _ | apply below_alloc | apply pw_below_drewN | apply below_drew | (refine Below.setCell (p := ⟨_, _, none⟩) ?_ (by simp) _))⟩
        · go_enter Try.func44, Try.ntmps44
          go_wp2
          go_region
          all_goals
            go_wp2
            go_ret
            exact ⟨rfl, by repeat (first | exact Below.refl _ _ | apply below_alloc | apply pw_below_drewN | apply below_drew | (refine Below.setCell (p := ⟨_, _, none⟩) ?_ (by simp) _))⟩
theorem below_alloc' {B : Nat} {w W : World} (h : Below B w W) (hB : B ≤ W.heap.size) (o : Obj) : Below B w (W.alloc o) := h.alloc hB o
theorem below_grown' {B b : Nat} {w w1 w2 : World} (h : Below B w w1) (hg : w1.grownBy w2 (some b)) (hB : B ≤ w1.heap.size) (hb : B ≤ b) : Below B w w2 := h.grown hg hB (fun k hk => by cases hk; exact hb)
def makeI (L : List Ent) (d l : ByteArray) (dir : Bool) : Int := if aboveI L d l = 0 then (if (findE L (d, l)).isSome = true then 65297 else if dir = true ∧ d.toList ≠ ([] : List UInt8) then 65302 else 0) else aboveI L d l
theorem split_sizes (a : ByteArray) : (splitB a).1.size ≤ a.size ∧ (splitB a).2.size ≤ a.size := by
  unfold splitB
  split
  · split
    · exact ⟨size_ext _ _ _, size_ext _ _ _⟩
    · exact ⟨Nat.zero_le _, Nat.le_refl _⟩
  · exact ⟨Nat.zero_le _, Nat.zero_le _⟩
set_option maxHeartbeats 1600000 in
set_option maxRecDepth 100000 in
theorem make_above (a d l : ByteArray) (dir : Bool) (hs : splitB a = (d, l)) (hsz : a.size ≤ 140737488351232) (w0 w : World) (B g b : Nat) (L : List Ent) (nx : Int) (hT : TreeS w b L) (hk : w.heap[g]? = some (.cells #[.map (some b), .int .i64 nx] 68 (0, 0))) (hB : Below B w0 w) (hBw : B ≤ w.heap.size) (c : Int) (hc : aboveI L d l = c) (hc0 : (c == 0) = false) :
    Calls Try.prog 38 #[.pointer (some ⟨g, 0, none⟩), .string a, .bool dir] w fun e w' => e = .returned (.tuple #[.int .i64 (-1), .int .u16 c]) ∧ Below B w0 w' := by
  have hgl := blk_lt hk
  have hof := of_calls a hsz
  have hds : d.size ≤ maxLen ∧ l.size ≤ maxLen := by have := split_sizes a; rw [hs] at this; simp only at this; unfold maxLen; exact ⟨by omega, by omega⟩
  rw [hs] at hof
  have hab : ∀ W, TreeS W b L → W.cell? ⟨g, 0, none⟩ = some (.map (some b)) → Calls Try.prog 44 #[.pointer (some ⟨g, 0, none⟩), .agg #[.string d, .string l]] W fun e w' => e = .returned (.int .u16 c) ∧ Below W.heap.size W w' := fun W h1 h2 => hc ▸ above_calls d l hds.1 W g b L h1 h2
  have HAB := Aside0.mk hab
  clear hab
  have HC := Aside0.mk hc
  have HDS := Aside0.mk hds
  have HT := Aside0.mk hT
  have HK := Aside0.mk hk
  have HOF := Aside0.mk hof
  have HB := Aside0.mk hB
  have HBw := Aside0.mk hBw
  clear hc hds hT hk hof hs hB hBw
  go_enter Try.func38, Try.ntmps38
  go_wp2_with fail
  refine (HOF.out _).mono ?_
  rintro e w1 ⟨rfl, hB1⟩
  unfold kv
  have hk1 := (hB1.block g (blk_lt HK.out)).trans HK.out
  have K1 := Aside0.mk hk1
  have T1 := Aside0.mk (HT.out.below hB1)
  have B1 := Aside0.mk (below_then HB.out HBw.out hB1)
  have S1 := Aside0.mk (Nat.le_trans HBw.out hB1.size)
  clear hk1 hB1
  go_wp2_with fail
  refine (HAB.out _ (T1.out.below (below_alloc (Below.refl _ _) _)) (by exact pw_cell_below (below_alloc (Below.refl _ _) _) (blk_cell K1.out 0))).mono ?_
  rintro e w2 ⟨rfl, hB2⟩
  have hc0' : (c != 0) = true := by simp only [bne, hc0]; rfl
  go_wp2
  go_ret2
  exact ⟨rfl, below_then (below_alloc' B1.out S1.out _) (Nat.le_trans S1.out (by simp)) hB2⟩
/-- What Make leaves. -/
def MakeP (w0 : World) (B g b : Nat) (L : List Ent) (d l : ByteArray) (dir : Bool) (nx : Int) (e : Ending) (w' : World) : Prop :=
  ∃ n : Int, e = .returned (.tuple #[.int .i64 n, .int .u16 (makeI L d l dir)]) ∧ Below B w0 w' ∧ (makeI L d l dir = 0 → TreeS w' b (L ++ [((d, l), dir)]) ∧ w'.heap[g]? = some (.cells #[.map (some b), .int .i64 (nx + 1)] 68 (0, 0)))
set_option maxHeartbeats 1600000 in
set_option maxRecDepth 100000 in
theorem make_rest (a d l : ByteArray) (dir : Bool) (hs : splitB a = (d, l)) (hsz : a.size ≤ 140737488351232) (w0 w : World) (B g b : Nat) (L : List Ent) (nx : Int) (hT : TreeS w b L) (hk : w.heap[g]? = some (.cells #[.map (some b), .int .i64 nx] 68 (0, 0))) (hB : Below B w0 w) (hBw : B ≤ w.heap.size) (hc : aboveI L d l = 0) (hL : L.length < 8) (hnx : 0 ≤ nx ∧ nx ≤ 8) (hgB : B ≤ g ∧ B ≤ b) :
    Calls Try.prog 38 #[.pointer (some ⟨g, 0, none⟩), .string a, .bool dir] w fun e w' => MakeP w0 B g b L d l dir nx e w' := by
  have hgl := blk_lt hk
  have hof := of_calls a hsz
  have hds : d.size ≤ maxLen ∧ l.size ≤ maxLen := by have := split_sizes a; rw [hs] at this; simp only at this; unfold maxLen; exact ⟨by omega, by omega⟩
  rw [hs] at hof
  have hab : ∀ W, TreeS W b L → W.cell? ⟨g, 0, none⟩ = some (.map (some b)) → Calls Try.prog 44 #[.pointer (some ⟨g, 0, none⟩), .agg #[.string d, .string l]] W fun e w' => e = .returned (  .int .u16 0) ∧ Below W.heap.size W w' := fun W h1 h2 => hc ▸ above_calls d l hds.1 W g b L h1 h2
  have HAB := Aside0.mk hab
  clear hab
  have HC := Aside0.mk hc
  have HDS := Aside0.mk hds
  have HT := Aside0.mk hT
  have HK := Aside0.mk hk
  have HOF := Aside0.mk hof
  have HB := Aside0.mk hB
  have HBw := Aside0.mk hBw
  clear hc hds hT hk hof hs hB hBw
  go_enter Try.func38, Try.ntmps38
  go_wp2_with fail
  refine (HOF.out _).mono ?_
  rintro e w1 ⟨rfl, hB1⟩
  unfold kv
  have hk1 := (hB1.block g (blk_lt HK.out)).trans HK.out
  have K1 := Aside0.mk hk1
  have T1 := Aside0.mk (HT.out.below hB1)
  have B1 := Aside0.mk (below_then HB.out HBw.out hB1)
  have S1 := Aside0.mk (Nat.le_trans HBw.out hB1.size)
  clear hk1 hB1
  go_wp2_with fail
  refine (HAB.out _ (T1.out.below (below_alloc (Below.refl _ _) _)) (by exact pw_cell_below (below_alloc (Below.refl _ _) _) (blk_cell K1.out 0))).mono ?_
  rintro e w2 ⟨rfl, hB2⟩
  have K2 := Aside0.mk ((hB2.block g (by have := blk_lt K1.out; simp; omega)).trans (blk_alloc K1.out (.cells #[.string d, .string l] 81)))
  have K8 := Aside0.mk ((hB2.block w1.heap.size (by simp)).trans (blk_new w1 (.cells #[.string d, .string l] 81)))
  have T2 := Aside0.mk ((T1.out.below (below_alloc (Below.refl _ _) (.cells #[.string d, .string l] 81))).below hB2)
  have B2 := Aside0.mk (below_then (below_alloc' B1.out S1.out (.cells #[.string d, .string l] 81)) (Nat.le_trans S1.out (by simp)) hB2)
  have S2 := Aside0.mk (Nat.le_trans S1.out (Nat.le_trans (show w1.heap.size ≤ (w1.alloc (.cells #[.string d, .string l] 81)).heap.size by simp) hB2.size))
  clear hB2
  have a0 := blk_cell K2.out 0
  have a1 := blk_cell K8.out 0
  have a2 := blk_cell K8.out 1
  have a0' := fun o => blk_cell (blk_alloc K2.out o) 0
  have a1' := fun o => blk_cell (blk_alloc K8.out o) 0
  have a2' := fun o => blk_cell (blk_alloc K8.out o) 1
  simp only [List.getElem?_toArray, List.getElem?_cons_zero, List.getElem?_cons_succ] at a0 a1 a2 a0' a1' a2'
  obtain ⟨q, hq⟩ : ∃ q, findE L (d, l) = q := ⟨_, rfl⟩
  obtain ⟨n0, l0⟩ := (T2.out.below (below_drew (Below.refl _ _))).look d l HDS.out.1 HDS.out.2
  obtain ⟨n1, l1⟩ := (T2.out.below (below_drew (below_alloc (Below.refl _ _) (.cells #[.int .i64 0, .bool false] 85)))).look d l HDS.out.1 HDS.out.2
  unfold kv at l0 l1
  rw [hq] at l0 l1
  have HQ := Aside0.mk hq
  clear hq
  have a3 := blk_cell K2.out 1
  have a3' := fun o => blk_cell (blk_alloc K2.out o) 1
  simp only [List.getElem?_toArray, List.getElem?_cons_zero, List.getElem?_cons_succ] at a3 a3'
  have ln := fun (n : Int) ty => (T2.out.below (below_drew (below_alloc (Below.refl _ _) (.cells #[.int .i64 n, .bool false] 85)))).len ty
  have L8 : decide ((8 : Int) ≤ (L.length : Int)) = false := decide_eq_false (by omega)
  rcases q with _ | x
  · have hm0 : Aside0 (makeI L d l dir = if dir = true ∧ d.toList ≠ ([] : List UInt8) then 65302 else 0) := ⟨by unfold makeI; rw [if_pos HC.out, HQ.out]; rfl⟩
    by_cases hdd : dir = true ∧ d.toList ≠ ([] : List UInt8)
    · have hm1 : Aside0 (makeI L d l dir = 65302) := ⟨by rw [hm0.out, if_pos hdd]⟩
      obtain ⟨rfl, hd0⟩ := hdd
      have b3 : (d.toList == ([] : List UInt8)) = false := beq_eq_false_iff_ne.mpr hd0
      have b4 : d.toList.isEmpty = false := Bool.eq_false_iff.mpr (fun h_ => hd0 (List.isEmpty_iff.mp h_))
      clear hd0
      go_wp2
      go_region
      all_goals
        go_wp2
        go_ret2
        exact ⟨-1, by rw [hm1.out]; rfl, by repeat (first | exact B2.out | exact S2.out | refine below_alloc' ?_ ?_ _ | apply pw_below_drewN | apply below_drew | (refine Below.setCell (p := ⟨_, _, none⟩) ?_ (by simp) _)), fun h_ => by rw [hm1.out] at h_; cases h_⟩
    · have hm1 : Aside0 (makeI L d l dir = 0) := ⟨by rw [hm0.out, if_neg hdd]⟩
      have hd2 : dir = false ∨ (dir = true ∧ (d.toList == ([] : List UInt8)) = true ∧ d.toList.isEmpty = true) := by
        cases dir
        · exact .inl rfl
        · have h0 : d.toList = [] := by
            apply Decidable.byContradiction
            intro h
            exact hdd ⟨rfl, h⟩
          exact .inr ⟨rfl, beq_iff_eq.mpr h0, List.isEmpty_iff.mpr h0⟩
      clear hdd
      rcases hd2 with rfl | ⟨rfl, b3, b4⟩
      · go_wp2
        go_region
        all_goals
          go_wp2
          generalize hW3 : World.drew _ = W3
          have K3 : W3.heap[g]? = some (.cells #[.map (some b), .int .i64 nx] 68 (0, 0)) := hW3 ▸ blk_alloc K2.out _
          have K83 : W3.heap[w1.heap.size]? = some (.cells #[.string d, .string l] 81 (0, 0)) := hW3 ▸ blk_alloc K8.out _
          have B3 := Aside0.mk (show Below B w0 W3 from hW3 ▸ below_drew (below_alloc' B2.out S2.out _))
          have T3 : TreeS W3 b L := hW3 ▸ T2.out.below (below_drew (below_alloc (Below.refl _ _) _))
          clear hW3 l0 l1 ln a0 a1 a2 a3 a0' a1' a2' a3'
          obtain ⟨w4, hrun, T4, G4⟩ := (show TreeS W3.drew b L from T3).store d l HDS.out.1 HDS.out.2 (by unfold maxLen; omega) HQ.out nx false
          unfold kv at hrun
          have hgb : some g ≠ some b := fun e => by
            injection e with e
            subst e
            obtain ⟨D, ⟨es, clock, h1, _⟩, _⟩ := T3
            rw [K3] at h1
            cases h1
          have K4 : w4.heap[g]? = some (.cells #[.map (some b), .int .i64 nx] 68 (0, 0)) := (G4.block g (blk_lt (show W3.drew.heap[g]? = _ from K3)) hgb).trans K3
          have B4 := Aside0.mk (below_grown' (below_drew B3.out) G4 (Nat.le_trans hgB.1 (Nat.le_of_lt (blk_lt K3))) hgB.2)
          have x0 := blk_cell K3 0
          have x1 := blk_cell K83 0
          have x2 := blk_cell K83 1
          have x3 := blk_cell K3 1
          simp only [List.getElem?_toArray, List.getElem?_cons_zero, List.getElem?_cons_succ] at x0 x1 x2 x3
          have T4A := Aside0.mk T4
          have K4A := Aside0.mk K4
          have y1 := blk_cell K4 1
          have y2 := blk_frozen K4 1
          simp only [List.getElem?_toArray, List.getElem?_cons_zero, List.getElem?_cons_succ] at y1
          have gbA := Aside0.mk hgb
          clear K3 K83 T3 T4 G4 K4 hgb
          go_region
          all_goals
            go_wp2
            go_ret2
            refine ⟨nx, by rw [hm1.out]; first | rfl | (simp; done), ?_, fun _ => ⟨?_, ?_⟩⟩
            · exact B4.out.setCell (p := ⟨g, 1, none⟩) hgB.1 _
            · exact T4A.out.step (Below.heap_setCell _ ⟨g, 1, none⟩ _ b (fun e => gbA.out (by rw [show b = g from e])))
            · exact blk_set K4A.out 1 _
      · go_wp2
        go_region
        all_goals
          go_wp2
          generalize hW3 : World.drew _ = W3
          have K3 : W3.heap[g]? = some (.cells #[.map (some b), .int .i64 nx] 68 (0, 0)) := hW3 ▸ blk_alloc K2.out _
          have K83 : W3.heap[w1.heap.size]? = some (.cells #[.string d, .string l] 81 (0, 0)) := hW3 ▸ blk_alloc K8.out _
          have B3 := Aside0.mk (show Below B w0 W3 from hW3 ▸ below_drew (below_alloc' B2.out S2.out _))
          have T3 : TreeS W3 b L := hW3 ▸ T2.out.below (below_drew (below_alloc (Below.refl _ _) _))
          clear hW3 l0 l1 ln a0 a1 a2 a3 a0' a1' a2' a3'
          obtain ⟨w4, hrun, T4, G4⟩ := (show TreeS W3.drew b L from T3).store d l HDS.out.1 HDS.out.2 (by unfold maxLen; omega) HQ.out nx true
          unfold kv at hrun
          have hgb : some g ≠ some b := fun e => by
            injection e with e
            subst e
            obtain ⟨D, ⟨es, clock, h1, _⟩, _⟩ := T3
            rw [K3] at h1
            cases h1
          have K4 : w4.heap[g]? = some (.cells #[.map (some b), .int .i64 nx] 68 (0, 0)) := (G4.block g (blk_lt (show W3.drew.heap[g]? = _ from K3)) hgb).trans K3
          have B4 := Aside0.mk (below_grown' (below_drew B3.out) G4 (Nat.le_trans hgB.1 (Nat.le_of_lt (blk_lt K3))) hgB.2)
          have x0 := blk_cell K3 0
          have x1 := blk_cell K83 0
          have x2 := blk_cell K83 1
          have x3 := blk_cell K3 1
          simp only [List.getElem?_toArray, List.getElem?_cons_zero, List.getElem?_cons_succ] at x0 x1 x2 x3
          have T4A := Aside0.mk T4
          have K4A := Aside0.mk K4
          have y1 := blk_cell K4 1
          have y2 := blk_frozen K4 1
          simp only [List.getElem?_toArray, List.getElem?_cons_zero, List.getElem?_cons_succ] at y1
          have gbA := Aside0.mk hgb
          clear K3 K83 T3 T4 G4 K4 hgb
          go_region
          all_goals
            go_wp2
            go_ret2
            refine ⟨nx, by rw [hm1.out]; first | rfl | (simp; done), ?_, fun _ => ⟨?_, ?_⟩⟩
            · exact B4.out.setCell (p := ⟨g, 1, none⟩) hgB.1 _
            · exact T4A.out.step (Below.heap_setCell _ ⟨g, 1, none⟩ _ b (fun e => gbA.out (by rw [show b = g from e])))
            · exact blk_set K4A.out 1 _
  · have hm1 : Aside0 (makeI L d l dir = 65297) := ⟨by unfold makeI; rw [if_pos HC.out, HQ.out]; rfl⟩
    go_wp2
    go_region
    all_goals
      go_wp2
      go_ret2
      exact ⟨-1, by rw [hm1.out]; rfl, by repeat (first | exact B2.out | exact S2.out | refine below_alloc' ?_ ?_ _ | apply pw_below_drewN | apply below_drew | (refine Below.setCell (p := ⟨_, _, none⟩) ?_ (by simp) _)), fun h_ => by rw [hm1.out] at h_; cases h_⟩
end Go.Proofs.Ytmlnoapfhimgoaa.Tree
