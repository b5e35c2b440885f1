/- tree.New, walked by hand: entry by entry. -/
import Derived.Test.YtmlnoapfhimgoaaTreeW
namespace Go.Proofs.Ytmlnoapfhimgoaa.Tree
set_option linter.unusedVariables false
set_option linter.unusedSimpArgs false
open Go.RowKit Go.Maps Go.Proofs.Ytmlnoapfhimgoaa.G Go.Proofs.Ytmlnoapfhimgoaa.P Go.Proofs.Ytmlnoapfhimgoaa.Q Go.Proofs.Ytmlnoapfhimgoaa.Lem Go.Proofs.YtmlnoapfhimgoaaW.PrintWords Go.Proofs.YtmlnoapfhimgoaaW.PrintLast Go.Proofs.YtmlnoapfhimgoaaW.PrintMore
theorem TreeS.drewN {w : World} {b : Nat} {L : List Ent} (h : TreeS w b L) (n : Nat) : TreeS (w.drewN n) b L := h.below (pw_below_drewN (Below.refl _ _) n)
theorem make_calls (a : ByteArray) (dir : Bool) (hsz : a.size ≤ 140737488351232) (w0 w : World) (B g b : Nat) (L : List Ent) (nx : Int) (hT : TreeS w b L) (hk : w.heap[g]? = some (.cells #[.map (some b), .int .i64 nx] 68 (0, 0))) (hB : Below B w0 w) (hBw : B ≤ w.heap.size) (hL : L.length < 8) (hnx : 0 ≤ nx ∧ nx ≤ 8) (hgB : B ≤ g ∧ B ≤ b) :
    Calls Try.prog 38 #[.pointer (some ⟨g, 0, none⟩), .string a, .bool dir] w fun e w' => MakeP w0 B g b L (splitB a).1 (splitB a).2 dir nx e w' := by
  by_cases hc : aboveI L (splitB a).1 (splitB a).2 = 0
  · exact make_rest a _ _ dir rfl hsz w0 w B g b L nx hT hk hB hBw hc hL hnx hgB
  · refine (make_above a _ _ dir rfl hsz w0 w B g b L nx hT hk hB hBw _ rfl (beq_eq_false_iff_ne.mpr hc)).mono fun e w' ⟨he, hb⟩ => ?_
    have hm : makeI L (splitB a).1 (splitB a).2 dir = aboveI L (splitB a).1 (splitB a).2 := if_neg hc
    exact ⟨-1, by rw [hm]; exact he, hb, fun h => absurd (hm ▸ h) hc⟩
def okE (L : List Ent) (a : ByteArray) (dir : Bool) : Bool := mayB a && decide (makeI L (splitB a).1 (splitB a).2 dir = 0)
def newB : List S38 → List Ent → Bool
  | [], _ => true
  | x :: r, L => okE L x.f0 x.f1 && newB r (L ++ [(splitB x.f0, x.f1)])
def codeI (b : Bool) : Int := if b = true then 0 else 11
def treeB (l : List S38) : Bool := decide (l.length ≤ 8) && newB l []
theorem newB_drop {l : List S38} {L : List Ent} {i : Int} (h0 : 0 ≤ i) (h1 : i < l.length) : newB (l.drop i.toNat) L = (okE L (rd_T38 l i).f0 (rd_T38 l i).f1 && newB (l.drop (i + 1).toNat) (L ++ [(splitB (rd_T38 l i).f0, (rd_T38 l i).f1)])) := by
  have hlt : i.toNat < l.length := by omega
  rw [List.drop_eq_getElem_cons hlt, newB, show (i + 1).toNat = i.toNat + 1 by omega]
  have : rd_T38 l i = l[i.toNat] := by unfold rd_T38; rw [List.getD_eq_getElem?_getD, List.getElem?_eq_getElem hlt]; rfl
  rw [this]
/-- What New answers: some tree (of which nothing more is told), and why there is none. -/
def NewP (w : World) (c : Int) (e : Ending) (w' : World) : Prop := ∃ v : Value, e = .returned (.tuple #[v, .int .i64 c]) ∧ Below w.heap.size w w'
set_option maxHeartbeats 4000000 in
set_option maxRecDepth 100000 in
theorem new_calls (A : Option Addr) (c : Nat) (l : List S38) (w : World) (hr : Kd.C k38 w A l.length l) (hc : l.length ≤ c) (hz : ∀ x ∈ l, x.f0.size ≤ 140737488351232) :
    Calls Try.prog 31 #[.slice A l.length c] w fun e w' => NewP w (codeI (treeB l)) e w' := by
  have hmm := @run_makeMap Try.prog
  have HR := Aside0.mk hr
  have HZ := Aside0.mk hz
  have hlen := hr.2.1
  clear hr hz
  by_cases h8 : l.length ≤ 8
  · have b8 : decide ((8 : Int) < (l.length : Int)) = false := decide_eq_false (by omega)
    obtain ⟨r, hR⟩ : ∃ r, newB l [] = r := ⟨_, rfl⟩
    have hr : Aside0 (codeI (treeB l) = codeI r) := ⟨by unfold treeB; rw [hR, decide_eq_true h8, Bool.true_and]⟩
    have HRr := Aside0.mk hR
    rw [hr.out]
    clear hr hR
    go_enter Try.func31, Try.ntmps31
    go_wp2
    go_loopg [7, 8, 17] l.length (fun kq v7 v8 v17 w' => ∃ (i : Int) (L : List Ent), v17 = .int .i64 i ∧ Aside0 (0 ≤ i ∧ (kq : Int) + i = l.length ∧ (L.length : Int) = i) ∧ Aside0 (newB (l.drop i.toNat) L = r) ∧ Aside0 (TreeS w' w.heap.size L) ∧ Aside0 (w'.heap[w.heap.size + 1]? = some (.cells #[.map (some w.heap.size), .int .i64 i] 68 (0, 0))) ∧ Aside0 (Below w.heap.size w w'))
    case atStart =>
      exact ⟨0, [], rfl, ⟨by simp⟩, HRr, ⟨(TreeS.made w).below (below_alloc (Below.refl _ _) _)⟩, ⟨by
        have := blk_new (w.alloc (.map #[] 0)) (.cells #[.map (some w.heap.size), .int .i64 0] 68 (0, 0))
        simpa using this⟩, ⟨below_alloc (below_alloc (Below.refl _ _) _) _⟩⟩
    case round =>
      clear HRr
      obtain ⟨i, L, rfl, HI, HN, HT, HG, HB⟩ := hrel
      have hI := HI.out
      by_cases hlt : i < (l.length : Int)
      · have hw1 : wrap64 (i + 1) = i + 1 := by unfold wrap64; omega
        obtain ⟨k1, rfl⟩ : ∃ k1, gk = k1 + 1 := ⟨gk - 1, by omega⟩
        have hN := HN.out
        rw [newB_drop hI.1 hlt] at hN
        obtain ⟨ad, ea, x0, x1, x2⟩ := at_T38 HR.out i hI.1 hlt
        have hzs : (rd_T38 l i).f0.size ≤ 140737488351232 := HZ.out _ (by
          unfold rd_T38; rw [List.getD_eq_getElem?_getD, List.getElem?_eq_getElem (show i.toNat < l.length by omega)]; exact List.getElem_mem _)
        obtain ⟨e, hE⟩ : ∃ e, rd_T38 l i = e := ⟨_, rfl⟩
        rw [hE] at hN x0 x1 x2 hzs
        obtain ⟨ep, ed, ec⟩ := e
        simp only at hN x0 x1 x2 hzs
        cases ea
        replace x0 := (HB.out.cell (World.block_lt_of_cell? w _ x0)).trans x0
        replace x1 := (HB.out.cell (World.block_lt_of_cell? w _ x1)).trans x1
        replace x2 := (HB.out.cell (World.block_lt_of_cell? w _ x2)).trans x2
        have hNA := Aside0.mk hN
        have pi : 0 ≤ i ∧ i < (l.length : Int) := ⟨hI.1, hlt⟩
        clear hE hN
        have BA := Aside0.mk (below_alloc HB.out (.cells #[.string ep, .bool ed, .int .i64 ec] 38))
        have TA := Aside0.mk (HT.out.below (below_alloc (Below.refl _ _) (.cells #[.string ep, .bool ed, .int .i64 ec] 38)))
        have GA := Aside0.mk (blk_alloc HG.out (.cells #[.string ep, .bool ed, .int .i64 ec] 38))
        have hmay := may_calls ep hzs
        cases hm : mayB ep
        · rw [hm] at hmay
          have hmA := Aside0.mk hmay
          have hr0 : Aside0 (codeI r = 11) := ⟨by rw [← hNA.out]; unfold okE; rw [hm]; rfl⟩
          clear hmay hm
          go_wp2_with fail
          refine (hmA.out _).mono ?_
          rintro e w2 ⟨rfl, ⟨nd, rfl⟩⟩
          go_wp2
          go_ret2
          exact ⟨.pointer none, by rw [hr0.out]; rfl, pw_below_drewN BA.out nd⟩
        · rw [hm] at hmay
          have hmA := Aside0.mk hmay
          have hok : Aside0 (okE L ep ed = decide (makeI L (splitB ep).1 (splitB ep).2 ed = 0)) := ⟨by unfold okE; rw [hm, Bool.true_and]⟩
          clear hmay hm
          go_wp2_with fail
          refine (hmA.out _).mono ?_
          rintro e w2 ⟨rfl, ⟨nd, rfl⟩⟩
          go_wp2_with fail
          refine (make_calls ep ed hzs w _ w.heap.size (w.heap.size + 1) w.heap.size L i (TA.out.drewN nd) (blk_drewN GA.out nd) (pw_below_drewN BA.out nd) (pw_below_drewN BA.out nd).size (by omega) (by omega) ⟨by omega, by omega⟩).mono ?_
          rintro e w3 ⟨nv, rfl, hB3, hT3⟩
          have hB3A := Aside0.mk hB3
          have hT3A := Aside0.mk hT3
          clear hB3 hT3
          by_cases hc : makeI L (splitB ep).1 (splitB ep).2 ed = 0
          · obtain ⟨T4, G4⟩ := hT3A.out hc
            have T4A := Aside0.mk T4
            have G4A := Aside0.mk G4
            have hn1 : Aside0 (newB (l.drop (i + 1).toNat) (L ++ [(splitB ep, ed)]) = r) := ⟨by rw [← hNA.out, hok.out, decide_eq_true hc, Bool.true_and]⟩
            clear T4 G4 hT3A
            rw [hc]
            clear hc
            go_wp2
            go_roundg k1
            case measure => omega
            case rel => exact ⟨i + 1, L ++ [(splitB ep, ed)], rfl, ⟨by rw [List.length_append]; simp; omega⟩, hn1, T4A, G4A, hB3A⟩
          · have hr0 : Aside0 (codeI r = 11) := ⟨by rw [← hNA.out, hok.out, decide_eq_false hc]; rfl⟩
            have hcb : (makeI L (splitB ep).1 (splitB ep).2 ed != 0) = true := bne_iff_ne.mpr hc
            have hcc : (makeI L (splitB ep).1 (splitB ep).2 ed == 0) = false := beq_eq_false_iff_ne.mpr hc
            generalize makeI L (splitB ep).1 (splitB ep).2 ed = cc at hcb hcc ⊢
            clear hc hT3A
            go_wp2
            go_ret2
            exact ⟨.pointer none, by rw [hr0.out]; rfl, hB3A.out⟩
      · have hr0 : Aside0 (codeI r = 0) := ⟨by
          have := HN.out
          rw [List.drop_of_length_le (by omega)] at this
          rw [← this]; rfl⟩
        go_wp2
        go_ret2
        exact ⟨_, by rw [hr0.out]; rfl, HB.out⟩
  · have b8 : decide ((8 : Int) < (l.length : Int)) = true := decide_eq_true (by omega)
    have hr : codeI (treeB l) = 11 := by unfold treeB; rw [decide_eq_false h8]; rfl
    rw [hr]
    clear hr
    go_enter Try.func31, Try.ntmps31
    go_wp2
    go_ret2
    exact ⟨_, rfl, Below.refl _ _⟩
end Go.Proofs.Ytmlnoapfhimgoaa.Tree
