/- The reference's tree of names, walked by hand: at, NewTree. -/
import Derived.Test.YtmlnoapfhimgoaaTreeN
namespace Go.Proofs.Ytmlnoapfhimgoaa.Tree
set_option linter.unusedVariables false
set_option linter.unusedSimpArgs false
open Go.RowKit Go.Maps Go.Proofs.Ytmlnoapfhimgoaa.G Go.Proofs.Ytmlnoapfhimgoaa.P Go.Proofs.Ytmlnoapfhimgoaa.Q Go.Proofs.Ytmlnoapfhimgoaa.Lem Go.Proofs.YtmlnoapfhimgoaaW.PrintWords Go.Proofs.YtmlnoapfhimgoaaW.PrintLast Go.Proofs.YtmlnoapfhimgoaaW.PrintMore
/-- The place of a path among the reference's items. -/
def atFrom (p : ByteArray) : List S38 → Int → Int
  | [], _ => -1
  | x :: r, i => if x.f0.toList = p.toList then i else atFrom p r (i + 1)
def atI (its : List S38) (p : ByteArray) : Int := atFrom p its 0
theorem atFrom_drop {p : ByteArray} {l : List S38} {i : Int} (h0 : 0 ≤ i) (h1 : i < l.length) : atFrom p (l.drop i.toNat) i = if (rd_T38 l i).f0.toList = p.toList then i else atFrom p (l.drop (i + 1).toNat) (i + 1) := by
  have hlt : i.toNat < l.length := by omega
  rw [List.drop_eq_getElem_cons hlt, atFrom, show (i + 1).toNat = i.toNat + 1 by omega]
  have : rd_T38 l i = l[i.toNat] := by unfold rd_T38; rw [List.getD_eq_getElem?_getD, List.getElem?_eq_getElem hlt]; rfl
  rw [this]
set_option maxHeartbeats 4000000 in
set_option maxRecDepth 100000 in
theorem at_calls (p : ByteArray) (w : World) (g : Nat) (A : Option Addr) (c : Nat) (nx : Int) (its : List S38) (hk : w.heap[g]? = some (.cells #[.slice A its.length c, .int .i64 nx] 74 (0, 0))) (hr : Kd.C k38 w A its.length its) :
    Calls Try.prog 40 #[.pointer (some ⟨g, 0, none⟩), .string p] w fun e w' => e = .returned (.int .i64 (atI its p)) ∧ w' = w := by
  have HR := Aside0.mk hr
  have hlen := hr.2.1
  obtain ⟨r, hR⟩ : ∃ r, atI its p = r := ⟨_, rfl⟩
  have HRr : Aside0 (atFrom p (its.drop (0 : Int).toNat) 0 = r) := ⟨hR⟩
  rw [hR]
  have a0 := blk_cell hk 0
  simp only [List.getElem?_toArray, List.getElem?_cons_zero, List.getElem?_cons_succ] at a0
  clear hr hR hk
  go_enter Try.func40, Try.ntmps40
  go_wp2
  go_loopg [5] its.length (fun kq v5 w' => ∃ (i : Int), v5 = .int .i64 i ∧ Aside0 (0 ≤ i ∧ (kq : Int) + i = its.length) ∧ Aside0 (atFrom p (its.drop i.toNat) i = r) ∧ w' = w)
  case atStart => exact ⟨0, rfl, ⟨by omega⟩, HRr, rfl⟩
  case round =>
    clear HRr
    obtain ⟨i, rfl, HI, HN, rfl⟩ := hrel
    have hI := HI.out
    by_cases hlt : i < (its.length : Int)
    · have hw1 : wrap64 (i + 1) = i + 1 := by unfold wrap64; omega
      obtain ⟨k1, rfl⟩ : ∃ k1, gk = k1 + 1 := ⟨gk - 1, by omega⟩
      have hN := HN.out
      rw [atFrom_drop hI.1 hlt] at hN
      obtain ⟨ad, ea, x0, x1, x2⟩ := at_T38 HR.out i hI.1 hlt
      obtain ⟨ep, hE⟩ : ∃ e, (rd_T38 its i).f0 = e := ⟨_, rfl⟩
      rw [hE] at hN x0
      cases ea
      have pi : 0 ≤ i ∧ i < (its.length : Int) := ⟨hI.1, hlt⟩
      clear hE x1 x2
      by_cases he : ep.toList = p.toList
      · have hb : (ep.toList == p.toList) = true := beq_iff_eq.mpr he
        rw [if_pos he] at hN
        have hNA := Aside0.mk hN
        clear he hN
        go_wp2
        go_ret
        exact ⟨by first | rfl | (rw [hNA.out]; rfl), rfl⟩
      · have hb : (ep.toList == p.toList) = false := beq_eq_false_iff_ne.mpr he
        rw [if_neg he] at hN
        have hNA := Aside0.mk hN
        clear he hN
        go_wp2
        go_roundg k1
        case measure => omega
        case rel => exact ⟨i + 1, rfl, ⟨by omega⟩, hNA, rfl⟩
    · have hN := HN.out
      rw [List.drop_of_length_le (by omega)] at hN
      have hNA := Aside0.mk hN
      clear hN
      go_wp2
      go_ret
      exact ⟨by rw [← hNA.out]; rfl, rfl⟩
theorem R_append_run {α : Type} {P : Program} (d : Kd α) {W : World} (base : Nat) (t ty e : TypeId) (z : Value) (bytes : Nat) (ht : P.underlying t = some (.slice e)) (hinfo : (P.info? e).map (fun i => (i.zero, i.size, i.bytes)) = some (some z, d.sz, bytes)) (hz : z.cells.size = d.sz) (hs0 : 0 < d.sz) (hb0 : 0 < bytes)
    (v : Value) (xs : List α) (p : α) (cs : List Value) (hp : d.M W base (fun _ => False) p cs) (HO : d.R e W base (fun _ => True) v xs) (hbase : base ≤ W.heap.size) (hl : (xs.length + 1) * bytes ≤ 140737488355328) :
    ∃ v1 w1, (Builtin.append_ #[t, t] ty #[v, .slice (some ⟨W.heap.size, 0, none⟩) 1 1]).run P (W.alloc (.cells cs.toArray e)).drew = .ok v1 w1 ∧ d.R e w1 base (fun _ => True) v1 (xs ++ [p]) ∧ W.grownBy w1 v.ownBlock := by
  obtain ⟨h0, inner, hown, hr⟩ := HO
  obtain ⟨i0, hi, hzz⟩ := Option.map_eq_some_iff.1 hinfo
  simp only [Prod.mk.injEq] at hzz
  obtain ⟨hz0, hz1, hz2⟩ := hzz
  have hlen : xs.length + 1 ≤ 140737488355328 := Nat.le_trans (Nat.le_mul_of_pos_right _ hb0) hl
  have hys : cs.length = d.sz := d.K_len (d.K_of_M hp)
  obtain ⟨v1, w1, hr1, hown1, hg, _, hat⟩ := run_append_own_at (P := P) (W.alloc (.cells cs.toArray e)).drew base t ty e i0 z d.sz bytes ht hi hz0 hz1 hz2 hz hs0 v xs.length inner (hown.alloc _) ⟨W.heap.size, 0, none⟩ 1 1 cs (by rw [hys]; simp)
    (by
      have := World.news_of_block (cs := cs.toArray) (t := e) (fr := (0, 0)) (heap_alloc_new W (.cells cs.toArray e))
      simpa using this) (d.K_one (d.K_of_M hp)) (by simp only [maxLen]; omega) hl (by simp; omega)
  have hg' : W.grownBy w1 v.ownBlock := World.grownBy.trans (World.grownBy_alloc W (.cells cs.toArray e) _) ⟨hg.os, hg.tape, hg.output, hg.size, hg.block⟩
  refine ⟨v1, w1, hr1, Kd.R_appended h0 hr hp (fun _ hk => hk.elim) (fun _ _ => trivial) hown1 hg' ?_, hg'⟩
  rcases hat with hat | hat
  · exact .inl hat
  · exact .inr ⟨_, hat, by simp⟩
/-- What the reference says of an entry. -/
def refD (its : List S38) (d : ByteArray) (dir : Bool) : Bool := if d.toList = ([] : List UInt8) then true else !dir && decide (0 ≤ atI its d) && (rd_T38 its (atI its d)).f1
def refE (its : List S38) (a : ByteArray) (dir : Bool) : Bool := mayB a && decide (atI its a < 0) && refD its (splitB a).1 dir
def newR : List S38 → List S38 → Int → Bool
  | [], _, _ => true
  | x :: r, its, i => refE its x.f0 x.f1 && newR r (its ++ [⟨x.f0, x.f1, i⟩]) (i + 1)
def treeR (l : List S38) : Bool := decide (l.length ≤ 8) && newR l [] 0
theorem newR_drop {l its : List S38} {i : Int} (h0 : 0 ≤ i) (h1 : i < l.length) : newR (l.drop i.toNat) its i = (refE its (rd_T38 l i).f0 (rd_T38 l i).f1 && newR (l.drop (i + 1).toNat) (its ++ [⟨(rd_T38 l i).f0, (rd_T38 l i).f1, i⟩]) (i + 1)) := by
  have hlt : i.toNat < l.length := by omega
  rw [List.drop_eq_getElem_cons hlt, newR, show (i + 1).toNat = i.toNat + 1 by omega]
  have : rd_T38 l i = l[i.toNat] := by unfold rd_T38; rw [List.getD_eq_getElem?_getD, List.getElem?_eq_getElem hlt]; rfl
  rw [this]
theorem atFrom_lt (p : ByteArray) : ∀ (l : List S38) (i : Int), 0 ≤ i → atFrom p l i = -1 ∨ (i ≤ atFrom p l i ∧ atFrom p l i < i + l.length)
  | [], i, _ => .inl rfl
  | x :: r, i, hi => by
    unfold atFrom
    split
    · exact .inr ⟨by omega, by simp; omega⟩
    · rcases atFrom_lt p r (i + 1) (by omega) with h | h
      · exact .inl h
      · refine .inr ⟨by omega, ?_⟩
        have := h.2
        simp
        omega
theorem atI_lt (p : ByteArray) (l : List S38) : atI l p = -1 ∨ (0 ≤ atI l p ∧ atI l p < l.length) := by
  rcases atFrom_lt p l 0 (by omega) with h | h
  · exact .inl h
  · exact .inr ⟨h.1, by unfold atI; omega⟩
theorem name_calls39 (a : ByteArray) (w : World) : Calls Try.prog 39 #[.string a] w fun e w' => e = .returned (.bool (mayB a)) ∧ Below w.heap.size w w' := crossroadsref12_NameMay.calls a _ w rfl
theorem rsplit_calls (a : ByteArray) (hsz : a.size ≤ 140737488351232) (w : World) : Calls Try.prog 41 #[.string a] w fun e w' => e = .returned (.tuple #[.string (splitB a).1, .string (splitB a).2]) ∧ Below w.heap.size w w' := by
  obtain ⟨k, hk⟩ := (ref_is a hsz).rounds
  exact crossroadsref12_Split.calls k a _ _ w hk
theorem info79 : (Try.prog.info? 79).map (fun i => (i.zero, i.size, i.bytes)) = some (some (.agg #[.string (⟨#[]⟩ : ByteArray), .bool false, .int .i64 0]), 3, 32) := by kernel_rfl
theorem ok38 (w : World) (base : Nat) (ok : Nat → Prop) (x : S38) : k38.M w base ok x [.string x.f0, .bool x.f1, .int .i64 x.f2] := k38_mkM w base ok x
set_option maxHeartbeats 8000000 in
set_option maxRecDepth 100000 in
theorem newTree_calls (A : Option Addr) (c : Nat) (l : List S38) (w : World) (hr : Kd.C k38 w A l.length l) (hc : l.length ≤ c) (hz : ∀ x ∈ l, x.f0.size ≤ 140737488351232) :
    Calls Try.prog 33 #[.slice A l.length c] w fun e w' => NewP w (codeI (treeR l)) e w' := by
  have HR := Aside0.mk hr
  have HZ := Aside0.mk hz
  have hlen := hr.2.1
  clear hr hz
  by_cases h8 : l.length ≤ 8
  · have b8 : decide ((8 : Int) < (l.length : Int)) = false := decide_eq_false (by omega)
    obtain ⟨r, hR⟩ : ∃ r, newR l [] 0 = r := ⟨_, rfl⟩
    have hr : Aside0 (codeI (treeR l) = codeI r) := ⟨by unfold treeR; rw [hR, decide_eq_true h8, Bool.true_and]⟩
    have HRr := Aside0.mk hR
    rw [hr.out]
    clear hr hR
    go_enter Try.func33, Try.ntmps33
    go_wp2
    go_loopg [5] l.length (fun kq v5 w' => ∃ (i : Int) (its : List S38) (vl : Value), v5 = .int .i64 i ∧ Aside0 (0 ≤ i ∧ (kq : Int) + i = l.length ∧ (its.length : Int) = i) ∧ Aside0 (newR (l.drop i.toNat) its i = r) ∧ Aside0 (w'.heap[w.heap.size]? = some (.cells #[vl, .int .i64 0] 74 (0, 0))) ∧ Aside0 (Kd.R k38 79 w' (w.heap.size + 1) (fun _ => True) vl its) ∧ Aside0 (Below w.heap.size w w') ∧ Aside0 (w.heap.size + 1 ≤ w'.heap.size))
    case atStart =>
      exact ⟨0, [], .slice none 0 0, rfl, ⟨by simp⟩, HRr, ⟨blk_new w (.cells #[.slice none 0 0, .int .i64 0] 74 (0, 0))⟩, ⟨Kd.R_nil _ _ _ _ _⟩, ⟨below_alloc (Below.refl _ _) _⟩, ⟨by simp⟩⟩
    case round =>
      clear HRr
      obtain ⟨i, its, vl, rfl, HI, HN, HK, HT, HB, HS⟩ := hrel
      have hI := HI.out
      by_cases hlt : i < (l.length : Int)
      · have hw1 : wrap64 (i + 1) = i + 1 := by unfold wrap64; omega
        obtain ⟨k1, rfl⟩ : ∃ k1, gk = k1 + 1 := ⟨gk - 1, by omega⟩
        have hN := HN.out
        rw [newR_drop hI.1 hlt] at hN
        obtain ⟨ad, ea, x0, x1, x2⟩ := at_T38 HR.out i hI.1 hlt
        have hzs : (rd_T38 l i).f0.size ≤ 140737488351232 := HZ.out _ (by
          unfold rd_T38; rw [List.getD_eq_getElem?_getD, List.getElem?_eq_getElem (show i.toNat < l.length by omega)]; exact List.getElem_mem _)
        obtain ⟨e, hE⟩ : ∃ e, rd_T38 l i = e := ⟨_, rfl⟩
        rw [hE] at hN x0 x1 x2 hzs
        obtain ⟨ep, ed, ec⟩ := e
        simp only at hN x0 x1 x2 hzs
        cases ea
        replace x0 := (HB.out.cell (World.block_lt_of_cell? w _ x0)).trans x0
        replace x1 := (HB.out.cell (World.block_lt_of_cell? w _ x1)).trans x1
        clear x2 hE
        have hNA := Aside0.mk hN
        have pi : 0 ≤ i ∧ i < (l.length : Int) := ⟨hI.1, hlt⟩
        clear hN
        obtain ⟨Av, cv, rfl, hcv, hCv⟩ := Kd.R_reads HT.out
        have HCv := Aside0.mk hCv
        clear hCv
        have hmay := name_calls39 ep
        cases hm : mayB ep
        · rw [hm] at hmay
          have hmA := Aside0.mk hmay
          have hr0 : Aside0 (codeI r = 11) := ⟨by rw [← hNA.out]; unfold refE; rw [hm]; rfl⟩
          clear hmay hm
          go_wp2_with fail
          refine (hmA.out _).mono ?_
          rintro e w2 ⟨rfl, hB2⟩
          have hB2A := Aside0.mk hB2
          clear hB2
          go_wp2
          go_ret2
          exact ⟨.pointer none, by rw [hr0.out]; rfl, below_then HB.out (by have := HS.out; omega) hB2A.out⟩
        · rw [hm] at hmay
          have hmA := Aside0.mk hmay
          have hNB : Aside0 ((decide (atI its ep < 0) && refD its (splitB ep).1 ed && newR (l.drop (i + 1).toNat) (its ++ [⟨ep, ed, i⟩]) (i + 1)) = r) := ⟨by rw [← hNA.out]; unfold refE; rw [hm, Bool.true_and]⟩
          clear hmay hm hNA
          go_wp2_with fail
          refine (hmA.out _).mono ?_
          rintro e w2 ⟨rfl, hB2⟩
          have K2 := Aside0.mk ((hB2.block _ (blk_lt HK.out)).trans HK.out)
          have C2 := Aside0.mk (Kd.C_below HCv.out hB2)
          have T2 := Aside0.mk (Kd.R_below HT.out hB2)
          have B2 := Aside0.mk (below_then HB.out (by have := HS.out; omega) hB2)
          have S2 := Aside0.mk (Nat.le_trans HS.out hB2.size)
          have x0' := pw_cell_below hB2 x0
          have x1' := pw_cell_below hB2 x1
          clear HK HCv HT HB HS hB2 x0 x1
          have hat := at_calls ep w2 w.heap.size Av cv 0 its K2.out C2.out
          by_cases ha : atI its ep < 0
          · have hag : (decide (0 ≤ atI its ep)) = false := decide_eq_false (by omega)
            have hNC : Aside0 ((refD its (splitB ep).1 ed && newR (l.drop (i + 1).toNat) (its ++ [⟨ep, ed, i⟩]) (i + 1)) = r) := ⟨by rw [← hNB.out, decide_eq_true ha, Bool.true_and]⟩
            generalize atI its ep = na at hat hag
            clear ha hNB
            have hatA := Aside0.mk hat
            clear hat
            go_wp2_with fail
            refine hatA.out.mono ?_
            rintro e w2x ⟨rfl, hw2x⟩
            subst hw2x
            have hsp := rsplit_calls ep hzs
            obtain ⟨d, hd⟩ : ∃ d, (splitB ep).1 = d := ⟨_, rfl⟩
            obtain ⟨la, hla⟩ : ∃ d, (splitB ep).2 = d := ⟨_, rfl⟩
            rw [hd, hla] at hsp
            rw [hd] at hNC
            have hspA := Aside0.mk hsp
            clear hsp hd hla hatA
            go_wp2_with fail
            refine (hspA.out _).mono ?_
            rintro e w3 ⟨rfl, hB3⟩
            have K3 := Aside0.mk ((hB3.block _ (blk_lt K2.out)).trans K2.out)
            have C3 := Aside0.mk (Kd.C_below C2.out hB3)
            have T3 := Aside0.mk (Kd.R_below T2.out hB3)
            have B3 := Aside0.mk (below_then B2.out (by have := S2.out; omega) hB3)
            have S3 := Aside0.mk (Nat.le_trans S2.out hB3.size)
            have y0 := pw_cell_below hB3 x0'
            have y1 := pw_cell_below hB3 x1'
            clear K2 C2 T2 B2 S2 hB3 x0' x1' hspA
            have a0 := blk_cell K3.out 0
            have fr := blk_frozen K3.out 0
            simp only [List.getElem?_toArray, List.getElem?_cons_zero, List.getElem?_cons_succ] at a0
            by_cases hd0 : d.toList = ([] : List UInt8)
            · have b1 : (d.toList == ([] : List UInt8)) = true := beq_iff_eq.mpr hd0
              have b2 : d.toList.isEmpty = true := List.isEmpty_iff.mpr hd0
              have hND : Aside0 (newR (l.drop (i + 1).toNat) (its ++ [⟨ep, ed, i⟩]) (i + 1) = r) := ⟨by rw [← hNC.out]; unfold refD; rw [if_pos hd0, Bool.true_and]⟩
              clear hd0 hNC
              go_wp2
              go_quiet (fail)
              go_wp2
              generalize hW4 : World.drewN _ nq = W4
              have K4 : W4.heap[w.heap.size]? = some (.cells #[.slice Av its.length cv, .int .i64 0] 74 (0, 0)) := hW4 ▸ blk_drewN K3.out nq
              have T4 : Kd.R k38 79 W4 (w.heap.size + 1) (fun _ => True) (.slice Av its.length cv) its := hW4 ▸ Kd.R_drewN T3.out nq
              have B4 : Below w.heap.size w W4 := hW4 ▸ pw_below_drewN B3.out nq
              have S4 : w.heap.size + 1 ≤ W4.heap.size := hW4 ▸ S3.out
              have z0 : W4.cell? (ad.add (i.toNat * 3)) = some (.string ep) := hW4 ▸ y0
              have z1 : W4.cell? ⟨(ad.add (i.toNat * 3)).block, (ad.add (i.toNat * 3)).off + 1, none⟩ = some (.bool ed) := hW4 ▸ y1
              clear hW4 y0 y1 a0 fr K3 T3 B3 S3 C3
              have hgb : some w.heap.size ≠ (Value.slice Av its.length cv).ownBlock := fun e_ => by
                obtain ⟨inner, ho⟩ := Kd.R_own T4
                have := own_base ho w.heap.size e_.symm
                omega
              have hz0 := fun o => pw_cell_below (below_alloc (Below.refl _ _) o) z0
              have hz1 := fun o => pw_cell_below (below_alloc (Below.refl _ _) o) z1
              have c0 := blk_cell K4 0
              have c0' := fun o => blk_cell (blk_alloc K4 o) 0
              simp only [List.getElem?_toArray, List.getElem?_cons_zero, List.getElem?_cons_succ] at c0 c0'
              have K4A := Aside0.mk K4
              have T4A := Aside0.mk T4
              have B4A := Aside0.mk B4
              have S4A := Aside0.mk S4
              have hgbA := Aside0.mk hgb
              clear K4 T4 B4 S4 hgb
              go_wp2
              go_region_law (refine Kd.R_append_step k38 (W := W4.drew) (w0 := W4) (w.heap.size + 1) rfl (.tmp 77) (.tmp 90) 72 79 _ 32 rfl Try.underlying72 info79 rfl (by decide) (by decide) (.slice Av its.length cv) its ⟨ep, ed, i⟩ [.string ep, .bool ed, .int .i64 i] (fun _ => True) (fun _ => False) rfl rfl (ok38 _ _ _ ⟨ep, ed, i⟩) (fun _ hk => hk.elim) (fun _ _ => trivial) (Kd.R_drew T4A.out) (below_drew (Below.refl _ _)) S4A.out (by omega) ?_; intro v5 w5 T5 B5 G5 _; obtain ⟨A5, cc5, rfl⟩ := Kd.R_slice T5; rw [List.length_append, List.length_singleton] at T5; have K5 := (G5.block _ (blk_lt K4A.out) hgbA.out).trans K4A.out; have B6 := Aside0.mk (B4A.out.trans (B5.mono (Nat.le_succ _))); have S5 := Aside0.mk (Nat.le_trans S4A.out G5.size); have K5A := Aside0.mk K5; have T5A := Aside0.mk T5; have c5 := blk_cell K5 0; have f5 := blk_frozen K5 0; simp only [List.getElem?_toArray, List.getElem?_cons_zero, List.getElem?_cons_succ] at c5; clear K5 T5 B5 G5)
              all_goals
                (try dsimp only [Act.put])
                go_wp2
                go_roundg k1
                case measure => omega
                case rel => exact ⟨i + 1, its ++ [⟨ep, ed, i⟩], _, rfl, ⟨by rw [List.length_append]; simp; omega⟩, hND, ⟨blk_set K5A.out 0 _⟩, ⟨Kd.R_set T5A.out K5A.out (by simp [k38, Kd.iso, Kd.pair, Kd.E, Kd.string, Kd.bool, Kd.int, Kd.scalar]) 0 _⟩, ⟨B6.out.setCell (p := ⟨w.heap.size, 0, none⟩) (Nat.le_refl _) _⟩, ⟨by simpa using S5.out⟩⟩
            · have b1 : (d.toList == ([] : List UInt8)) = false := beq_eq_false_iff_ne.mpr hd0
              have b2 : d.toList.isEmpty = false := Bool.eq_false_iff.mpr (fun h_ => hd0 (List.isEmpty_iff.mp h_))
              have hNE : Aside0 (((!ed && decide (0 ≤ atI its d) && (rd_T38 its (atI its d)).f1) && newR (l.drop (i + 1).toNat) (its ++ [⟨ep, ed, i⟩]) (i + 1)) = r) := ⟨by rw [← hNC.out]; unfold refD; rw [if_neg hd0]⟩
              clear hd0 hNC
              cases ed
              · have hat := fun n => at_calls d (World.drewN w3 n) w.heap.size Av cv 0 its (blk_drewN K3.out n) (Kd.C_drewN C3.out n)
                rcases atI_lt d its with hj | ⟨hj0, hj1⟩
                · have hr0 : Aside0 (codeI r = 11) := ⟨by rw [← hNE.out, hj]; rfl⟩
                  rw [hj] at hat
                  clear hj hNE
                  have hatA := Aside0.mk hat
                  clear hat
                  go_wp2
                  go_quiet ((go_at_call 40; exact Calls.quiet_of_same (hatA.out _)))
                  go_wp2
                  go_ret2
                  exact ⟨.pointer none, by rw [hr0.out]; rfl, pw_below_drewN B3.out _⟩
                · obtain ⟨adj, eaj, q0, q1, q2⟩ := at_T38 C3.out (atI its d) hj0 hj1
                  obtain ⟨j, hj⟩ : ∃ j, atI its d = j := ⟨_, rfl⟩
                  rw [hj] at hat q1 hj0 hj1 hNE
                  obtain ⟨fj, hfj⟩ : ∃ x, (rd_T38 its j).f1 = x := ⟨_, rfl⟩
                  rw [hfj] at q1 hNE
                  have hjd : decide (0 ≤ j) = true := decide_eq_true hj0
                  have hjl : decide (j < 0) = false := decide_eq_false (by omega)
                  have hjb : 0 ≤ j ∧ j < (its.length : Int) := ⟨hj0, hj1⟩
                  have hNF : Aside0 ((fj && newR (l.drop (i + 1).toNat) (its ++ [⟨ep, false, i⟩]) (i + 1)) = r) := ⟨by rw [← hNE.out, hjd]; rfl⟩
                  clear q0 q2 hj hfj hNE
                  have hatA := Aside0.mk hat
                  clear hat
                  cases eaj
                  cases fj
                  · have hr0 : Aside0 (codeI r = 11) := ⟨by rw [← hNF.out]; rfl⟩
                    clear hNF
                    go_wp2
                    go_quiet ((go_at_call 40; exact Calls.quiet_of_same (hatA.out _)))
                    go_wp2
                    go_ret2
                    exact ⟨.pointer none, by rw [hr0.out]; rfl, pw_below_drewN B3.out _⟩
                  · have hND : Aside0 (newR (l.drop (i + 1).toNat) (its ++ [⟨ep, false, i⟩]) (i + 1) = r) := ⟨by rw [← hNF.out]; rfl⟩
                    clear hNF
                    go_wp2
                    go_quiet ((go_at_call 40; exact Calls.quiet_of_same (hatA.out _)))
                    go_wp2
                    generalize hW4 : World.drewN _ nq = W4
                    have K4 : W4.heap[w.heap.size]? = some (.cells #[.slice (some adj) its.length cv, .int .i64 0] 74 (0, 0)) := hW4 ▸ blk_drewN K3.out nq
                    have T4 : Kd.R k38 79 W4 (w.heap.size + 1) (fun _ => True) (.slice (some adj) its.length cv) its := hW4 ▸ Kd.R_drewN T3.out nq
                    have B4 : Below w.heap.size w W4 := hW4 ▸ pw_below_drewN B3.out nq
                    have S4 : w.heap.size + 1 ≤ W4.heap.size := hW4 ▸ S3.out
                    have z0 : W4.cell? (ad.add (i.toNat * 3)) = some (.string ep) := hW4 ▸ y0
                    have z1 : W4.cell? ⟨(ad.add (i.toNat * 3)).block, (ad.add (i.toNat * 3)).off + 1, none⟩ = some (.bool false) := hW4 ▸ y1
                    clear hW4 y0 y1 a0 fr K3 T3 B3 S3 C3
                    have hgb : some w.heap.size ≠ (Value.slice (some adj) its.length cv).ownBlock := fun e_ => by
                      obtain ⟨inner, ho⟩ := Kd.R_own T4
                      have := own_base ho w.heap.size e_.symm
                      omega
                    have hz0 := fun o => pw_cell_below (below_alloc (Below.refl _ _) o) z0
                    have hz1 := fun o => pw_cell_below (below_alloc (Below.refl _ _) o) z1
                    have c0 := blk_cell K4 0
                    have c0' := fun o => blk_cell (blk_alloc K4 o) 0
                    simp only [List.getElem?_toArray, List.getElem?_cons_zero, List.getElem?_cons_succ] at c0 c0'
                    have K4A := Aside0.mk K4
                    have T4A := Aside0.mk T4
                    have B4A := Aside0.mk B4
                    have S4A := Aside0.mk S4
                    have hgbA := Aside0.mk hgb
                    clear K4 T4 B4 S4 hgb
                    go_wp2
                    go_region_law (refine Kd.R_append_step k38 (W := W4.drew) (w0 := W4) (w.heap.size + 1) rfl (.tmp 77) (.tmp 90) 72 79 _ 32 rfl Try.underlying72 info79 rfl (by decide) (by decide) (.slice (some adj) its.length cv) its ⟨ep, false, i⟩ [.string ep, .bool false, .int .i64 i] (fun _ => True) (fun _ => False) rfl rfl (ok38 _ _ _ ⟨ep, false, i⟩) (fun _ hk => hk.elim) (fun _ _ => trivial) (Kd.R_drew T4A.out) (below_drew (Below.refl _ _)) S4A.out (by omega) ?_; intro v5 w5 T5 B5 G5 _; obtain ⟨A5, cc5, rfl⟩ := Kd.R_slice T5; rw [List.length_append, List.length_singleton] at T5; have K5 := (G5.block _ (blk_lt K4A.out) hgbA.out).trans K4A.out; have B6 := Aside0.mk (B4A.out.trans (B5.mono (Nat.le_succ _))); have S5 := Aside0.mk (Nat.le_trans S4A.out G5.size); have K5A := Aside0.mk K5; have T5A := Aside0.mk T5; have c5 := blk_cell K5 0; have f5 := blk_frozen K5 0; simp only [List.getElem?_toArray, List.getElem?_cons_zero, List.getElem?_cons_succ] at c5; clear K5 T5 B5 G5)
                    all_goals
                      (try dsimp only [Act.put])
                      go_wp2
                      go_roundg k1
                      case measure => omega
                      case rel => exact ⟨i + 1, its ++ [⟨ep, false, i⟩], _, rfl, ⟨by rw [List.length_append]; simp; omega⟩, hND, ⟨blk_set K5A.out 0 _⟩, ⟨Kd.R_set T5A.out K5A.out (by simp [k38, Kd.iso, Kd.pair, Kd.E, Kd.string, Kd.bool, Kd.int, Kd.scalar]) 0 _⟩, ⟨B6.out.setCell (p := ⟨w.heap.size, 0, none⟩) (Nat.le_refl _) _⟩, ⟨by simpa using S5.out⟩⟩
              · have hr0 : Aside0 (codeI r = 11) := ⟨by rw [← hNE.out]; rfl⟩
                clear hNE
                go_wp2
                go_quiet (fail)
                go_wp2
                go_ret2
                exact ⟨.pointer none, by rw [hr0.out]; rfl, pw_below_drewN B3.out _⟩
          · have hag : (decide (0 ≤ atI its ep)) = true := decide_eq_true (by omega)
            have hr0 : Aside0 (codeI r = 11) := ⟨by rw [← hNB.out, decide_eq_false ha]; rfl⟩
            generalize atI its ep = na at hat hag
            clear ha hNB
            have hatA := Aside0.mk hat
            clear hat
            go_wp2_with fail
            refine hatA.out.mono ?_
            rintro e w2x ⟨rfl, hw2x⟩
            subst hw2x
            go_wp2
            go_ret2
            exact ⟨.pointer none, by rw [hr0.out]; rfl, B2.out⟩
      · have hr0 : Aside0 (codeI r = 0) := ⟨by
          have := HN.out
          rw [List.drop_of_length_le (by omega)] at this
          rw [← this]; rfl⟩
        have k0 := blk_cell HK.out 1
        have k1 := blk_frozen HK.out 1
        simp only [List.getElem?_toArray, List.getElem?_cons_zero, List.getElem?_cons_succ] at k0
        go_wp2
        go_ret2
        exact ⟨_, by rw [hr0.out]; rfl, HB.out.setCell (p := ⟨w.heap.size, 1, none⟩) (Nat.le_refl _) _⟩
  · have b8 : decide ((8 : Int) < (l.length : Int)) = true := decide_eq_true (by omega)
    have hr : codeI (treeR l) = 11 := by unfold treeR; rw [decide_eq_false h8]; rfl
    rw [hr]
    clear hr
    go_enter Try.func33, Try.ntmps33
    go_wp2
    go_ret2
    exact ⟨_, rfl, below_alloc (Below.refl _ _) _⟩
end Go.Proofs.Ytmlnoapfhimgoaa.Tree
