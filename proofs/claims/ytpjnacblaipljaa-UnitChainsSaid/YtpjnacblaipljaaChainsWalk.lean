/- UnitChains, the walk: rows of the call's own, told by their headers; turned round or not; gone through by 'Run'. -/
import Derived.Test.YtpjnacblaipljaaOrdersWalk
import Derived.Deep.RegionLaw
namespace Go.Proofs.Ytpjnacblaipljaa.Chains
set_option linter.unusedVariables false
set_option linter.unusedSimpArgs false
open Go.RowKit Go.Proofs.Ytpjnacblaipljaa.P Go.Proofs.Ytpjnacblaipljaa.Orders Go.Proofs.YtpjnacblaipljaaW.PrintWords Go.Proofs.YtpjnacblaipljaaW.PrintLast Go.Proofs.YtpjnacblaipljaaW.PrintMore
/-- Blocks of numbers stay as they are. -/
def Keep3 (w w1 : World) : Prop := ∀ (k : Nat) (cells : Array Value), w.heap[k]? = some (Obj.cells cells 3 (0, 0)) → w1.heap[k]? = w.heap[k]?
theorem Keep3.refl (w : World) : Keep3 w w := fun _ _ _ => rfl
theorem Keep3.trans {a b c : World} (h : Keep3 a b) (h' : Keep3 b c) : Keep3 a c := fun k cells hk => (h' k cells ((h k cells hk).trans hk)).trans (h k cells hk)
theorem keep_below {w w1 : World} (h : Below w.heap.size w w1) : Keep3 w w1 := fun k cells hk => h.block k (lt_of_block hk)
theorem keep_grown {w w1 : World} {row : Option Nat} (h : w.grownBy w1 row) (hr : ∀ k, row = some k → ∃ cells, w.heap[k]? = some (.cells cells 32 (0, 0))) : Keep3 w w1 := fun k cells hk => h.block k (lt_of_block hk) (fun e => by
  obtain ⟨c2, h2⟩ := hr k e.symm
  rw [hk] at h2
  injection h2 with h2
  injection h2 with _ h3
  cases h3)
theorem keep_set {w : World} {g j : Nat} {cs : Array Value} (hg : w.heap[g]? = some (.cells cs 32 (0, 0))) (u : Value) : Keep3 w (w.setCell ⟨g, j, none⟩ u) := fun k cells hk => heap_setCell_other w ⟨g, j, none⟩ k u (fun e => by
  subst e
  rw [hk] at hg
  injection hg with h2
  injection h2 with _ h3
  cases h3)
/-- Headers lead to rows of numbers of their own blocks, now. -/
def Owns (w : World) (hs : List Hd) (ls : List (List Int)) : Prop := All w hs ls ∧ ∀ h ∈ hs, ∀ ad, h.1 = some ad → ∃ cells, w.heap[ad.block]? = some (.cells cells 3 (0, 0))
theorem leads_keep {w w1 : World} {h : Hd} {l : List Int} (hl : Leads w h l) (ht : ∀ ad, h.1 = some ad → ∃ cells, w.heap[ad.block]? = some (.cells cells 3 (0, 0))) (hk : Keep3 w w1) : Leads w1 h l := by
  obtain ⟨h1, h2, h3, h4, h5⟩ := hl
  refine ⟨h1, h2, h3, h4, fun hn => ?_⟩
  obtain ⟨ad, he, hc⟩ := h5 hn
  obtain ⟨cells, hb⟩ := ht ad he
  refine ⟨ad, he, fun j p hj => ?_⟩
  obtain ⟨c, hlen, hK, hcell⟩ := hc j p hj
  refine ⟨c, hlen, hK, fun i u hu => ?_⟩
  rw [← hcell i u hu]
  have e := hk _ _ hb
  unfold World.cell?
  rw [show (ad.add (j * (Kd.int .i64).sz + i)).block = ad.block from by unfold Addr.add; split <;> rfl, e]
theorem Owns.keep {w w1 : World} {hs : List Hd} {ls : List (List Int)} (h : Owns w hs ls) (hk : Keep3 w w1) : Owns w1 hs ls :=
  ⟨⟨h.1.1, fun j x l hx hl => leads_keep (h.1.2 j x l hx hl) (h.2 x (List.mem_of_getElem? hx)) hk⟩, fun x hx ad ha => by
    obtain ⟨cells, hb⟩ := h.2 x hx ad ha
    exact ⟨cells, (hk _ _ hb).trans hb⟩⟩
theorem one_own {w : World} {base : Nat} {ok : Nat → Prop} {A : Option Addr} {c : Nat} {l : List Int} (h : Kd.R (Kd.int .i64) 3 w base ok (.slice A l.length c) l) : Owns w [(A, l.length, c)] [l] := by
  obtain ⟨h1, h2, h3⟩ := Kd.R_reads' h
  refine ⟨⟨rfl, fun j x y hx hy => ?_⟩, fun x hx ad ha => ?_⟩
  · cases j with
    | zero =>
      injection hx with hx; injection hy with hy
      subst hx; subst hy
      exact ⟨rfl, h2, h3⟩
    | succ j => simp at hx
  · obtain rfl := List.mem_singleton.1 hx
    have ha' : A = some ad := ha
    subst ha'
    exact Kd.R_typed h ad.block (by simp [Value.ownBlock])
theorem Owns.snoc {w : World} {hs : List Hd} {ls : List (List Int)} (h : Owns w hs ls) {a : Hd} {l : List Int} (ha : Owns w [a] [l]) : Owns w (hs ++ [a]) (ls ++ [l]) :=
  ⟨all_snoc h.1 (ha.1.2 0 a l rfl rfl), fun x hx => by
    rcases List.mem_append.1 hx with hx | hx
    · exact h.2 x hx
    · exact ha.2 x hx⟩
theorem Owns.swap {w : World} {hs : List Hd} {ls : List (List Int)} (h : Owns w hs ls) (i j : Nat) (hi : i < ls.length) (hj : j < ls.length) : Owns w ((hs.set i (hs.getD j no)).set j (hs.getD i no)) ((ls.set i (ls.getD j [])).set j (ls.getD i [])) := by
  have h1 := h.1.1
  refine ⟨all_set (all_set h.1 i (all_get h.1 j hj)) j (all_get h.1 i hi), fun x hx => ?_⟩
  exact h.2 x ((swap_mem hs no i j (by omega) (by omega) x).1 hx)
theorem Owns.reads {w : World} {A : Option Addr} {n : Nat} {hs : List Hd} {ls : List (List Int)} (h : Owns w hs ls) (hC : kh.C w A n hs) : (Kd.slice 3 (Kd.int .i64)).C w A n ls := Orders.reads (Below.refl _ _) hC h.1
/-- The chain. -/
def ch (i : Nat) : List (List Int) := [1] :: (List.range (i - 1)).map fun j : Nat => [-((j : Int) + 1), (j : Int) + 2]
theorem ch_succ {i : Nat} (h : 1 ≤ i) : ch (i + 1) = ch i ++ [[-(i : Int), (i : Int) + 1]] := by
  unfold ch
  rw [show i + 1 - 1 = (i - 1) + 1 by omega, List.range_succ, List.map_append, List.cons_append]
  congr 2
  show [[-(((i - 1 : Nat) : Int) + 1), ((i - 1 : Nat) : Int) + 2]] = _
  congr 1
  rw [show ((i - 1 : Nat) : Int) = (i : Int) - 1 by omega]
  congr 1
  · omega
  · congr 1; omega
theorem ch_length {i : Nat} (h : 1 ≤ i) : (ch i).length = i := by unfold ch; rw [List.length_cons, List.length_map, List.length_range]; omega
theorem rd_ones (k : Nat) (i : Int) (h0 : 0 ≤ i) (h1 : i < k) : rdOf 0 (List.replicate k (1 : Int)) i = 1 := by
  unfold rdOf
  rw [List.getD_eq_getElem?_getD, List.getElem?_replicate, if_pos (by omega)]; rfl
theorem at_int {w : World} {A : Option Addr} {l : List Int} (h : (Kd.int .i64).C w A l.length l) (i : Int) (h0 : 0 ≤ i) (h1 : i < l.length) : ∃ ad, A = some ad ∧ w.cell? (ad.add i.toNat) = some (.int .i64 (rdOf 0 l i)) := by
  obtain ⟨ad, c, e, -, hk, hc⟩ := ReadsRow.get_ h 0 i h0 h1
  have hk' : c = [.int .i64 (l.getD i.toNat 0)] := hk
  subst hk'
  have := hc 0 _ rfl
  rw [show i.toNat * (Kd.int .i64).sz + 0 = i.toNat from by show i.toNat * 1 + 0 = i.toNat; omega] at this
  exact ⟨ad, e, this⟩
theorem alloc_size (x : World) (o : Obj) : (x.alloc o).heap.size = x.heap.size + 1 := by
  show (x.heap.push o).size = _
  rw [Array.size_push]
theorem drew_size (x : World) : x.drew.heap.size = x.heap.size := rfl
theorem heap_new_ {x : World} {o : Obj} {b : Nat} (h : b = x.heap.size) : (x.alloc o).heap[b]? = some o := by
  subst h
  show (x.heap.push o)[x.heap.size]? = some o
  exact Array.getElem?_push_size
theorem heap_past {x : World} {o o' : Obj} {b : Nat} (h : x.heap[b]? = some o') : (x.alloc o).heap[b]? = some o' := by
  have hl := lt_of_block h
  show (x.heap.push o)[b]? = _
  rw [Array.getElem?_push_lt hl]
  rw [← h, Array.getElem?_eq_getElem hl]
theorem heap_drew {x : World} {o' : Obj} {b : Nat} (h : x.heap[b]? = some o') : x.drew.heap[b]? = some o' := h
theorem keep_at {w w1 : World} (hk : Keep3 w w1) {b : Nat} {c : Array Value} (h : w.heap[b]? = some (Obj.cells c 3 (0, 0))) : w1.heap[b]? = some (Obj.cells c 3 (0, 0)) := (hk b c h).trans h
/-- A block of one number; a block of one header; a block of noughts: read. -/
theorem one_at {x : World} {b : Nat} {A : Option Addr} {m c : Nat} (h : x.heap[b]? = some (Obj.cells #[.slice A m c] 32 (0, 0))) : kh.C x (some ⟨b, 0, none⟩) 1 [(A, m, c)] := by
  refine ⟨rfl, by omega, fun _ => ⟨_, rfl, fun j p hj => ?_⟩⟩
  cases j with
  | zero =>
    injection hj with hj
    subst hj
    refine ⟨[hv (A, m, c)], rfl, rfl, fun i u hu => ?_⟩
    cases i with
    | zero =>
      injection hu with hu
      subst hu
      show World.cell? _ ⟨b, 0, none⟩ = _
      unfold World.cell?
      simp only [h]; rfl
    | succ i => simp at hu
  | succ j => simp at hj
theorem owns_at {x : World} {b : Nat} {n : Int} (h : x.heap[b]? = some (Obj.cells #[.int .i64 n] 3 (0, 0))) : Owns x [(some ⟨b, 0, none⟩, 1, 1)] [[n]] := by
  refine ⟨⟨rfl, fun j p l hp hl => ?_⟩, fun p hp ad ha => ?_⟩
  · cases j with
    | zero =>
      injection hp with hp; injection hl with hl
      subst hp; subst hl
      refine ⟨rfl, by simp, rfl, by simp, fun _ => ⟨_, rfl, fun j p hj => ?_⟩⟩
      cases j with
      | zero =>
        injection hj with hj
        subst hj
        refine ⟨[.int .i64 n], rfl, rfl, fun i u hu => ?_⟩
        cases i with
        | zero =>
          injection hu with hu
          subst hu
          show World.cell? _ ⟨b, 0, none⟩ = _
          unfold World.cell?
          simp only [h]; rfl
        | succ i => simp at hu
      | succ j => simp at hj
    | succ j => simp at hp
  · obtain rfl := List.mem_singleton.1 hp
    injection ha with ha
    subst ha
    exact ⟨_, h⟩
theorem made_get (z : Value) (n j : Nat) (h : j < n) : (madeCells #[z] n)[j]? = some z := by
  unfold madeCells
  rw [Array.getElem?_map, Array.getElem?_range, if_pos h]
  simp [Nat.mod_one]
theorem zeros_at {x : World} {b n : Nat} (hn : n ≤ 400) (h : x.heap[b]? = some (Obj.cells (madeCells #[.int .i64 0] n) 3 (0, 0))) : (Kd.int .i64).C x (some ⟨b, 0, none⟩) n (List.replicate n 0) := by
  refine ⟨List.length_replicate, by omega, fun _ => ⟨_, rfl, fun j p hj => ?_⟩⟩
  obtain ⟨hj1, hj2⟩ := List.getElem?_eq_some_iff.1 hj
  rw [List.length_replicate] at hj1
  rw [List.getElem_replicate] at hj2
  subst hj2
  refine ⟨[.int .i64 0], rfl, rfl, fun i u hu => ?_⟩
  cases i with
  | zero =>
    injection hu with hu
    subst hu
    rw [show j * (Kd.int .i64).sz + 0 = j from by show j * 1 + 0 = j; omega]
    have e : (Addr.add ⟨b, 0, none⟩ j) = ⟨b, j, none⟩ := by
      unfold Addr.add
      split
      · rename_i h0; subst h0; rfl
      · simp
    rw [e]
    unfold World.cell?
    simp only [h]
    have := made_get (.int .i64 0) n j hj1
    simpa using this
  | succ i => simp at hu
/-- The append of the last clause, as one step. -/
theorem chain_append {ops : Array Oper} {o : Oper} {a : Act} {Q : Exit → Act → World → Prop} {Kc : Act → World → Prop} {W wr w1 : World} {base kk c8 b2 b3 : Nat} {A8 : Option Addr} {hs2 : List Hd} {ls2 : List (List Int)} {x : Int}
    (hw : Region.wanted o (yielded ops a.tmps) = true) (ho : o.op = .call { callee := .builtin .append, args := #[.tmp 89, .tmp 93], argTypes := #[31, 31] })
    (h89 : a.eval (.tmp 89) = .slice A8 kk c8) (h92 : a.eval (.tmp 92) = .slice (some ⟨b2, 0, none⟩) 1 1) (h93 : a.eval (.tmp 93) = .slice (some ⟨b3, 0, none⟩) 1 1)
    (hb : Below wr.heap.size wr W) (hh2 : W.heap[b2]? = some (Obj.cells #[.int .i64 x] 3 (0, 0))) (hh3 : W.heap[b3]? = some (Obj.cells #[.slice (some ⟨b2, 0, none⟩) 1 1] 32 (0, 0)))
    (hR : kh.R 32 wr base (fun _ => True) (.slice A8 kk c8) hs2) (hlh : hs2.length = kk) (hOw : Owns wr hs2 ls2) (HB : Below base w1 wr) (hk : kk ≤ 400) (hbs : base ≤ wr.heap.size)
    (h : ∀ A1 c1 W1, (Kd.slice 3 (Kd.int .i64)).C W1 A1 (kk + 1) (ls2 ++ [[x]]) → kk + 1 ≤ c1 → Below base w1 W1 → Keep3 W W1 → Kc (a.put o.dst (.slice A1 (kk + 1) c1)) W1) :
    if Region.wanted o (yielded ops a.tmps) = true then Oper.wp Try.prog o a W Kc Q else Kc (a.put o.dst undef) W := by
  have hRW := Kd.R_below hR hb
  refine Kd.R_append_rows_step kh (Rr := fun x cs => cs = [hv x]) (w0 := w1) base hw (.tmp 89) (.tmp 93) 31 32 (.slice none 0 0) 24 ho Try.underlying31 infoH rfl (by decide) (by decide) (.slice A8 kk c8) hs2 [(some ⟨b2, 0, none⟩, 1, 1)] (some ⟨b3, 0, none⟩) 1 1 (fun _ => True) (fun _ => False) h89 h93
    hRW (one_at hh3) (fun _ _ h => h) (fun _ h => h.elim) (fun _ _ => trivial) (HB.trans (hb.mono hbs)) (Nat.le_trans hbs hb.size) (by omega) ?_
  intro v1 W1 hR1 hB1 hG1 _
  obtain ⟨A1, c1, rfl, hc1, hC1⟩ := Kd.R_reads hR1
  have hl : (hs2 ++ [((some ⟨b2, 0, none⟩, 1, 1) : Hd)]).length = kk + 1 := by rw [List.length_append, hlh]; rfl
  rw [hl] at hC1 hc1 ⊢
  have hK : Keep3 W W1 := keep_grown hG1 (fun k hk => Kd.R_typed hRW k hk)
  refine h A1 c1 W1 ?_ hc1 hB1 hK
  exact (((hOw.keep (keep_below hb)).snoc (owns_at hh2)).keep hK).reads hC1
attribute [local go_sem] max2_int min2_int max_two min_two max_three min_three max_four min_four
set_option maxRecDepth 100000 in
set_option maxHeartbeats 8000000 in
theorem chains_fore (w : World) (n : Int) (q kk : Nat) (hqe : Int.tmod (wrap64 n) 400 = q) (hkk : wrap64 (1 + (q : Int)) = (kk : Int)) (hk1 : 1 ≤ kk) (hk2 : kk ≤ 400) (K : Nat) (hA : crossroadslaw5_awake.f K = some true)
    (hRun : Aside0 (∀ gl : List (List Int), (∀ c, c ∈ gl ↔ c ∈ ch kk) → gl.length = kk → ∃ K, unit_Run.f K kk gl (List.replicate kk 0) = some (List.replicate kk 1, false, 0)))
    (hBad : Aside0 (∀ gl : List (List Int), (∀ c, c ∈ gl ↔ c ∈ ch kk) → gl.length = kk → ∃ K, unit_Run.f K kk (gl ++ [[-(kk : Int)]]) (List.replicate kk 0) = some ([], true, 0))) :
    Calls Try.prog 10 #[.int .u16 n, .bool false] w fun e w' => e = .returned (.bool true) ∧ Below w.heap.size w w' := by
  go_enter Try.func10, Try.ntmps10
  go_wp2_with (first
    | (go_at_call 17; (refine (crossroadslaw5_awake.calls K true _ hA).mono ?_); rintro e w1 ⟨rfl, hB1⟩)
    | ((with_reducible refine gate_dst (N := 22) rfl ?_); go_must (refine Kd.R_lit (Kd.int .i64) (w0 := w1) w1.heap.size 3 ?hg22 (N := 22) ?hd22 (xs := ([1] : List Int)) (inner := [.int .i64 1]) (ok := fun _ => True) (okp := fun _ => True) ?hr22 ?hp22 (fun _ hk => hk) trivial (Below.refl _ _) (Nat.le_refl _) (by simp) ?_); (case hd22 => rfl); (case hg22 => rfl); (case hr22 => first | (go_simp; done) | (go_simp; rfl)); (case hp22 => exact (Reps.one (show Kd.M (Kd.int .i64) _ _ _ 1 [.int .i64 1] from rfl) (Reps.none _ _))); intro v2 w2 hR2 hB2 hG2 _; obtain ⟨A2, c2, rfl, hc2, hC2⟩ := Kd.R_reads hR2)
    | ((with_reducible refine gate_dst (N := 23) rfl ?_); go_must (refine Kd.R_lit kh (w0 := w1) w1.heap.size 32 ?hg23 (N := 23) ?hd23 (xs := [(A2, 1, c2)]) (inner := [.slice A2 1 c2]) (ok := fun _ => True) (okp := fun _ => True) ?hr23 ?hp23 (fun _ hk => hk) trivial hB2 hB2.size (by simp) ?_); (case hd23 => rfl); (case hg23 => rfl); (case hr23 => first | (go_simp; done) | (go_simp; rfl)); (case hp23 => exact (Reps.one (show kh.M _ _ _ (A2, 1, c2) [.slice A2 1 c2] from rfl) (Reps.none _ _))); intro v3 w3 hR3 hB3 hG3 _))
  have hBw : ∀ wr, Below w1.heap.size w1 wr → Below w.heap.size w wr := fun wr h => hB1.trans (h.mono hB1.size)
  have hO3 : Owns w3 [(A2, 1, c2)] (ch 1) := (one_own hR2).keep (keep_grown hG3 (fun k hk => by cases hk))
  clear hc2 hC2 hR2 hG2 hG3
  go_loopg [6, 7] kk (fun kq v6 v7 w' => ∃ (i : Int) (hs1 : List Hd), v7 = .int .i64 i ∧ Aside0 (1 ≤ i ∧ i ≤ kk ∧ (kq : Int) + i = kk + 1) ∧ Aside0 (kh.R 32 w' w1.heap.size (fun _ => True) v6 hs1) ∧
    Aside0 (Owns w' hs1 (ch i.toNat)) ∧ Aside0 (Below w1.heap.size w1 w'))
  case atStart => exact ⟨1, _, rfl, ⟨by omega⟩, ⟨hR3⟩, ⟨hO3⟩, ⟨hB3⟩⟩
  case round =>
    obtain ⟨i, hs1, rfl, HI, HR, HA, HB⟩ := hrel
    have hI := HI.out
    by_cases hin : i < (kk : Int)
    · have hwn : wrap64 (-i) = -i := by unfold wrap64; omega
      have hwp : wrap64 (i + 1) = i + 1 := by unfold wrap64; omega
      have hRa := HR.out
      have hBa := HB.out
      have hsl : hs1.length = i.toNat := HA.out.1.1.trans (ch_length (by omega))
      have hsl0 := Aside0.mk hsl
      clear hsl
      obtain ⟨A8, c8, rfl⟩ := Kd.R_slice HR.out
      go_wp2_with (first
        | ((with_reducible refine gate_dst (N := 34) rfl ?_); go_must (refine Kd.R_lit (Kd.int .i64) (w0 := wr) wr.heap.size 3 ?hg34 (N := 34) ?hd34 (xs := ([(-i), (i + 1)] : List Int)) (inner := [.int .i64 (-i), .int .i64 (i + 1)]) (ok := fun _ => True) (okp := fun _ => True) ?hr34 ?hp34 (fun _ hk => hk) trivial (Below.refl _ _) (Nat.le_refl _) (by simp) ?_); (case hd34 => rfl); (case hg34 => rfl); (case hr34 => first | (go_simp; done) | (go_simp; rfl)); (case hp34 => exact (Reps.one (show Kd.M (Kd.int .i64) _ _ _ (-i) [.int .i64 (-i)] from rfl) (Reps.one (show Kd.M (Kd.int .i64) _ _ _ (i + 1) [.int .i64 (i + 1)] from rfl) (Reps.none _ _)))); intro v4 w4 hR4 hB4 hG4 _; obtain ⟨A4, c4, rfl, hc4, hC4⟩ := Kd.R_reads hR4)
        | ((with_reducible refine gate_dst (N := 36) rfl ?_); go_must (refine Kd.R_append_row hv no (h1 := fun _ => rfl) (w0 := w4) w1.heap.size rfl (.tmp 29) (.tmp 35) 31 32 (.slice none 0 0) 24 rfl Try.underlying31 infoH rfl (by decide) (.slice A8 hs1.length c8) hs1 [(A4, 2, c4)] (some ⟨w4.heap.size, 0, none⟩) 1 1 (fun _ => True) rfl rfl (fun _ _ => trivial) (Kd.R_alloc (Kd.R_below hRa hB4) _) (one (A4, 2, c4) 32) ((Below.refl _ _).alloc (Nat.le_trans hBa.size hB4.size) _) (Nat.le_trans (Nat.le_trans hBa.size hB4.size) (by show w4.heap.size ≤ (w4.heap.push _).size; rw [Array.size_push]; omega)) (by have := hsl0.out; omega) ?_); intro v5 w5 hR5 hB5 hG5 _))
      obtain ⟨k1, rfl⟩ : ∃ k1, gk = k1 + 1 := ⟨gk - 1, by omega⟩
      go_roundg k1
      case measure => omega
      case rel =>
        refine ⟨i + 1, hs1 ++ [(A4, 2, c4)], by first | rfl | (simp; done), ⟨by omega⟩, ⟨hR5⟩, ⟨?_⟩, ⟨?_⟩⟩
        · rw [show (i + 1).toNat = i.toNat + 1 by omega, ch_succ (by omega), show ((i.toNat : Nat) : Int) = i by omega]
          have k4 := keep_below ((Below.refl w4.heap.size w4).alloc (Nat.le_refl _) (Obj.cells #[hv (A4, 2, c4)] 32))
          have k5 := keep_grown hG5 (fun k hk => Kd.R_typed (Kd.R_alloc (Kd.R_below hRa hB4) (Obj.cells #[hv (A4, 2, c4)] 32)) k hk)
          exact ((HA.out.keep (keep_below hB4)).snoc (one_own hR4)).keep (k4.trans k5)
        · exact (hBa.trans (hB4.mono hBa.size)).trans hB5
    · have hi : i = (kk : Int) := by omega
      subst hi
      rw [Int.toNat_natCast] at HA
      have hlh : hs1.length = kk := HA.out.1.1.trans (ch_length hk1)
      obtain ⟨A8, c8, rfl⟩ := Kd.R_slice HR.out
      rw [hlh] at HR ⊢
      obtain ⟨hs2, hhs2⟩ : ∃ hs2, hs2 = hs1 := ⟨hs1, rfl⟩
      subst hhs2
      have hR2 := HR.out
      have hOw := HA
      obtain ⟨ls2, hls2⟩ : ∃ ls2, ls2 = ch kk := ⟨_, rfl⟩
      rw [← hls2] at hOw
      have hmem : Aside0 (∀ c, c ∈ ls2 ↔ c ∈ ch kk) := ⟨fun c => by rw [hls2]⟩
      clear hls2
      have hBr := HB.out
      have hWr : ∀ x, Below wr.heap.size wr x → Below w.heap.size w x := fun x h => hBw x (hBr.trans (h.mono hBr.size))
      have hlen2 : ls2.length = kk := hOw.out.1.1.symm.trans hlh
      obtain ⟨K1, hr1⟩ := hRun.out ls2 hmem.out hlen2
      obtain ⟨zs, hzs0⟩ : ∃ zs : List Int, List.replicate kk 0 = zs := ⟨_, rfl⟩
      rw [hzs0] at hr1
      have hzs := Aside0.mk hzs0
      clear hzs0
      obtain ⟨os, hos⟩ : ∃ os : List Int, List.replicate kk 1 = os := ⟨_, rfl⟩
      have hol : os.length = kk := by rw [← hos, List.length_replicate]
      have hoa := Aside0.mk hos
      rw [hos] at hr1
      clear hos
      have hol' := Aside0.mk hol
      have hk0 : (kk : Int) = kk := rfl
      have hC2 : kh.C wr A8 kk hs2 := by have := (Kd.R_reads' hR2).2.2; rw [hlh] at this; exact this
      have hcap : kk ≤ c8 := (Kd.R_reads' hR2).2.1
      have h2 : ∀ x A6 c6, Below wr.heap.size wr x → Kd.C (Kd.int .i64) x A6 zs.length zs → zs.length ≤ c6 → Calls Try.prog 20 #[.int .i64 kk, .slice A8 kk c8, .slice A6 zs.length c6] x fun e w' => ∃ v0_ : Value, e = .returned (.tuple #[v0_, .bool false, .int .i64 0]) ∧ Kd.R (Kd.int .i64) 3 w' x.heap.size (fun _ => True) v0_ os ∧ Below x.heap.size x w' := by
        intro x A6 c6 hb hC6 hc6
        have hC := (hOw.out.keep (keep_below hb)).reads (Kd.C_below hC2 hb)
        rw [← hlen2] at hC hcap ⊢
        rw [← hlen2] at hr1
        exact unit_Run.calls K1 ls2.length A8 c8 ls2 A6 c6 zs os false 0 x hC hcap hC6 hc6 hr1
      clear hol
      go_wp2_with (first
        | ((with_reducible refine gate_dst (N := 71) rfl ?_); refine Kd.R_make (Kd.int .i64) (w0 := wr) wr.heap.size 3 rfl (N := 71) rfl 32 (.tmp 70) (.tmp 70) rfl kk rfl rfl Try.underlying32 (.int .i64 0) 8 info3 rfl (by decide) (by decide) 0 (ok := fun _ => True) (okp := fun _ => True) rfl (fun _ hk => hk) trivial (by omega) (by omega) (Below.refl _ _) (Nat.le_refl _) ?_; intro v4 w4 hR4 hB4 hG4 _; rw [Int.toNat_natCast, hzs.out] at hR4; obtain ⟨A4, c4, rfl, hc4, hC4⟩ := Kd.R_reads hR4)
        | (go_at_call 20; (with_reducible refine (h2 w4 A4 c4 hB4 hC4 hc4).mono ?_); rintro e w5 ⟨v5, rfl, hR5, hB5'⟩; have hB5 := hB4.trans (hB5'.mono hB4.size); obtain ⟨A5, c5, rfl, hc5, hC5⟩ := Kd.R_reads hR5))
      have hol := hol'.out
      rw [hol] at hC5 ⊢
      clear hol h2
      go_loopg [12] kk (fun kq v12 w' => ∃ (i : Int), v12 = .int .i64 i ∧ Aside0 (0 ≤ i ∧ i ≤ kk ∧ (kq : Int) + i = kk) ∧ w' = w5)
      case atStart => exact ⟨0, rfl, ⟨by omega⟩, rfl⟩
      case round =>
        obtain ⟨i, rfl, HI3, rfl⟩ := hrel
        have hI3 := HI3.out
        by_cases hik : i < (kk : Int)
        · obtain ⟨ad5, rfl, hx5⟩ := at_int (l := os) (by rw [hol'.out]; exact hC5) i (by omega) (by rw [hol'.out]; exact hik)
          rw [← hoa.out, rd_ones kk i (by omega) hik] at hx5
          have hb5 : 0 ≤ i ∧ i < (kk : Int) := ⟨by omega, hik⟩
          have hw5 : wrap64 (i + 1) = i + 1 := by unfold wrap64; omega
          go_wp2
          obtain ⟨k3, rfl⟩ : ∃ k3, gk = k3 + 1 := ⟨gk - 1, by omega⟩
          go_roundg k3
          case measure => omega
          case rel => exact ⟨i + 1, rfl, ⟨by omega⟩, rfl⟩
        · have hneg : wrap64 (-(kk : Int)) = -(kk : Int) := by unfold wrap64; omega
          have hneg' : IntKind.i64.wrap (-(kk : Int)) = -(kk : Int) := by rw [IntKind.wrap_i64]; omega
          have hmk := run_make_row' (P := Try.prog) 32 3 (.int .i64 0) 8 Try.underlying32 info3 rfl .i64 .i64 kk (by omega) (by omega)
          obtain ⟨K2, hr2⟩ := hBad.out ls2 hmem.out hlen2
          have h3 : ∀ x A1 c1 A6, (Kd.slice 3 (Kd.int .i64)).C x A1 (kk + 1) (ls2 ++ [[-(kk : Int)]]) → kk + 1 ≤ c1 → (Kd.int .i64).C x A6 kk (List.replicate kk 0) → Calls Try.prog 20 #[.int .i64 kk, .slice A1 (kk + 1) c1, .slice A6 kk kk] x fun e w' => ∃ v0_ : Value, e = .returned (.tuple #[v0_, .bool true, .int .i64 0]) ∧ Below x.heap.size x w' := by
            intro x A1 c1 A6 hC1 hc1 hC6
            have hl3 : (ls2 ++ [[-(kk : Int)]]).length = kk + 1 := by rw [List.length_append, hlen2]; rfl
            have := unit_Run.calls K2 kk A1 c1 (ls2 ++ [[-(kk : Int)]]) A6 kk (List.replicate kk 0) [] true 0 x (by rw [hl3]; exact hC1) (by rw [hl3]; exact hc1) (by rw [List.length_replicate]; exact hC6) (by rw [List.length_replicate]; exact Nat.le_refl _) hr2
            rw [hl3, List.length_replicate] at this
            exact this.mono fun e w' ⟨v0, he, _, hb⟩ => ⟨v0, he, hb⟩
          have hRz := Kd.R_below hR2 hB5
          have hOz := hOw.out.keep (keep_below hB5)
          have hBz : Below w1.heap.size w1 wr := hBr.trans (hB5.mono hBr.size)
          clear hr2 hlen2
          go_wp2
          go_region_law (first
            | (refine chain_append (wr := wr) (w1 := w1) (x := -(kk : Int)) (hs2 := hs2) (ls2 := ls2) rfl rfl rfl rfl rfl ?hb ?hh2 ?hh3 hRz hlh hOz hBz hk2 hBz.size ?_; (case hb => repeat (first | exact Below.refl _ _ | apply below_alloc | apply pw_below_drewN | apply below_drew)); (case hh2 => repeat (first | (refine heap_new_ ?_; first | rfl | (simp only [alloc_size, drew_size]; done) | (simp only [alloc_size, drew_size]; omega)) | apply heap_past | apply heap_drew)); (case hh3 => repeat (first | (refine heap_new_ ?_; first | rfl | (simp only [alloc_size, drew_size]; done) | (simp only [alloc_size, drew_size]; omega)) | apply heap_past | apply heap_drew)); intro A1 c1 W1 hC1 hc1 hBW hKW)
            | (refine goes_ (f := 20) (N := some 97) Try.func20 (by kernel_rfl) rfl #[.int .i64 kk, .slice A1 (kk + 1) c1, .slice (some ⟨W1.heap.size, 0, none⟩) kk kk] rfl rfl rfl ?harg ?_; (case harg => (simp only [List.map_toArray, List.map_cons, List.map_nil]; rfl)); refine (h3 _ A1 c1 (some ⟨W1.heap.size, 0, none⟩) (Kd.C_alloc hC1 _) hc1 (zeros_at hk2 (heap_new_ rfl))).mono ?_; rintro e W5 ⟨v5, rfl, hB5x⟩; refine ⟨_, rfl, ?_⟩; have hBz5 := (hBW.alloc hBW.size _).trans (hB5x.mono (hBW.alloc hBW.size _).size))
            | (refine goes_ (f := 20) (N := some 97) Try.func20 (by kernel_rfl) rfl #[.int .i64 kk, .slice A1 (kk + 1) c1, .slice (some ⟨wr.heap.size, 0, none⟩) kk kk] rfl rfl rfl ?harg ?_; (case harg => (simp only [List.map_toArray, List.map_cons, List.map_nil]; rfl)); refine (h3 W1 A1 c1 (some ⟨wr.heap.size, 0, none⟩) hC1 hc1 (zeros_at hk2 ?hz)).mono ?_; (case hz => refine keep_at hKW ?_; repeat (first | (refine heap_new_ ?_; first | rfl | (simp only [alloc_size, drew_size]; done) | (simp only [alloc_size, drew_size]; omega)) | apply heap_past | apply heap_drew)); rintro e W5 ⟨v5, rfl, hB5x⟩; refine ⟨_, rfl, ?_⟩; have hBz5 := hBW.trans (hB5x.mono hBW.size))
            | (refine goes_ (f := 20) (N := some 97) Try.func20 (by kernel_rfl) rfl #[.int .i64 kk, .slice A1 (kk + 1) c1, .slice (some ⟨(wr.heap.size + 1), 0, none⟩) kk kk] rfl rfl rfl ?harg ?_; (case harg => (simp only [List.map_toArray, List.map_cons, List.map_nil]; rfl)); refine (h3 W1 A1 c1 (some ⟨(wr.heap.size + 1), 0, none⟩) hC1 hc1 (zeros_at hk2 ?hz)).mono ?_; (case hz => refine keep_at hKW ?_; repeat (first | (refine heap_new_ ?_; first | rfl | (simp only [alloc_size, drew_size]; done) | (simp only [alloc_size, drew_size]; omega)) | apply heap_past | apply heap_drew)); rintro e W5 ⟨v5, rfl, hB5x⟩; refine ⟨_, rfl, ?_⟩; have hBz5 := hBW.trans (hB5x.mono hBW.size))
            | (refine goes_ (f := 20) (N := some 97) Try.func20 (by kernel_rfl) rfl #[.int .i64 kk, .slice A1 (kk + 1) c1, .slice (some ⟨(wr.heap.size + 2), 0, none⟩) kk kk] rfl rfl rfl ?harg ?_; (case harg => (simp only [List.map_toArray, List.map_cons, List.map_nil]; rfl)); refine (h3 W1 A1 c1 (some ⟨(wr.heap.size + 2), 0, none⟩) hC1 hc1 (zeros_at hk2 ?hz)).mono ?_; (case hz => refine keep_at hKW ?_; repeat (first | (refine heap_new_ ?_; first | rfl | (simp only [alloc_size, drew_size]; done) | (simp only [alloc_size, drew_size]; omega)) | apply heap_past | apply heap_drew)); rintro e W5 ⟨v5, rfl, hB5x⟩; refine ⟨_, rfl, ?_⟩; have hBz5 := hBW.trans (hB5x.mono hBW.size)))
          all_goals (try dsimp only [Act.put])
          all_goals go_wp2
          all_goals go_ret
          all_goals exact ⟨by first | rfl | (simp; done), hBw _ hBz5⟩
set_option maxRecDepth 100000 in
set_option maxHeartbeats 8000000 in
theorem chains_back (w : World) (n : Int) (q kk : Nat) (hqe : Int.tmod (wrap64 n) 400 = q) (hkk : wrap64 (1 + (q : Int)) = (kk : Int)) (hk1 : 1 ≤ kk) (hk2 : kk ≤ 400) (K : Nat) (hA : crossroadslaw5_awake.f K = some true)
    (hRun : Aside0 (∀ gl : List (List Int), (∀ c, c ∈ gl ↔ c ∈ ch kk) → gl.length = kk → ∃ K, unit_Run.f K kk gl (List.replicate kk 0) = some (List.replicate kk 1, false, 0)))
    (hBad : Aside0 (∀ gl : List (List Int), (∀ c, c ∈ gl ↔ c ∈ ch kk) → gl.length = kk → ∃ K, unit_Run.f K kk (gl ++ [[-(kk : Int)]]) (List.replicate kk 0) = some ([], true, 0))) :
    Calls Try.prog 10 #[.int .u16 n, .bool true] w fun e w' => e = .returned (.bool true) ∧ Below w.heap.size w w' := by
  go_enter Try.func10, Try.ntmps10
  go_wp2_with (first
    | (go_at_call 17; (refine (crossroadslaw5_awake.calls K true _ hA).mono ?_); rintro e w1 ⟨rfl, hB1⟩)
    | ((with_reducible refine gate_dst (N := 22) rfl ?_); go_must (refine Kd.R_lit (Kd.int .i64) (w0 := w1) w1.heap.size 3 ?hg22 (N := 22) ?hd22 (xs := ([1] : List Int)) (inner := [.int .i64 1]) (ok := fun _ => True) (okp := fun _ => True) ?hr22 ?hp22 (fun _ hk => hk) trivial (Below.refl _ _) (Nat.le_refl _) (by simp) ?_); (case hd22 => rfl); (case hg22 => rfl); (case hr22 => first | (go_simp; done) | (go_simp; rfl)); (case hp22 => exact (Reps.one (show Kd.M (Kd.int .i64) _ _ _ 1 [.int .i64 1] from rfl) (Reps.none _ _))); intro v2 w2 hR2 hB2 hG2 _; obtain ⟨A2, c2, rfl, hc2, hC2⟩ := Kd.R_reads hR2)
    | ((with_reducible refine gate_dst (N := 23) rfl ?_); go_must (refine Kd.R_lit kh (w0 := w1) w1.heap.size 32 ?hg23 (N := 23) ?hd23 (xs := [(A2, 1, c2)]) (inner := [.slice A2 1 c2]) (ok := fun _ => True) (okp := fun _ => True) ?hr23 ?hp23 (fun _ hk => hk) trivial hB2 hB2.size (by simp) ?_); (case hd23 => rfl); (case hg23 => rfl); (case hr23 => first | (go_simp; done) | (go_simp; rfl)); (case hp23 => exact (Reps.one (show kh.M _ _ _ (A2, 1, c2) [.slice A2 1 c2] from rfl) (Reps.none _ _))); intro v3 w3 hR3 hB3 hG3 _))
  have hBw : ∀ wr, Below w1.heap.size w1 wr → Below w.heap.size w wr := fun wr h => hB1.trans (h.mono hB1.size)
  have hO3 : Owns w3 [(A2, 1, c2)] (ch 1) := (one_own hR2).keep (keep_grown hG3 (fun k hk => by cases hk))
  clear hc2 hC2 hR2 hG2 hG3
  go_loopg [6, 7] kk (fun kq v6 v7 w' => ∃ (i : Int) (hs1 : List Hd), v7 = .int .i64 i ∧ Aside0 (1 ≤ i ∧ i ≤ kk ∧ (kq : Int) + i = kk + 1) ∧ Aside0 (kh.R 32 w' w1.heap.size (fun _ => True) v6 hs1) ∧
    Aside0 (Owns w' hs1 (ch i.toNat)) ∧ Aside0 (Below w1.heap.size w1 w'))
  case atStart => exact ⟨1, _, rfl, ⟨by omega⟩, ⟨hR3⟩, ⟨hO3⟩, ⟨hB3⟩⟩
  case round =>
    obtain ⟨i, hs1, rfl, HI, HR, HA, HB⟩ := hrel
    have hI := HI.out
    by_cases hin : i < (kk : Int)
    · have hwn : wrap64 (-i) = -i := by unfold wrap64; omega
      have hwp : wrap64 (i + 1) = i + 1 := by unfold wrap64; omega
      have hRa := HR.out
      have hBa := HB.out
      have hsl : hs1.length = i.toNat := HA.out.1.1.trans (ch_length (by omega))
      have hsl0 := Aside0.mk hsl
      clear hsl
      obtain ⟨A8, c8, rfl⟩ := Kd.R_slice HR.out
      go_wp2_with (first
        | ((with_reducible refine gate_dst (N := 34) rfl ?_); go_must (refine Kd.R_lit (Kd.int .i64) (w0 := wr) wr.heap.size 3 ?hg34 (N := 34) ?hd34 (xs := ([(-i), (i + 1)] : List Int)) (inner := [.int .i64 (-i), .int .i64 (i + 1)]) (ok := fun _ => True) (okp := fun _ => True) ?hr34 ?hp34 (fun _ hk => hk) trivial (Below.refl _ _) (Nat.le_refl _) (by simp) ?_); (case hd34 => rfl); (case hg34 => rfl); (case hr34 => first | (go_simp; done) | (go_simp; rfl)); (case hp34 => exact (Reps.one (show Kd.M (Kd.int .i64) _ _ _ (-i) [.int .i64 (-i)] from rfl) (Reps.one (show Kd.M (Kd.int .i64) _ _ _ (i + 1) [.int .i64 (i + 1)] from rfl) (Reps.none _ _)))); intro v4 w4 hR4 hB4 hG4 _; obtain ⟨A4, c4, rfl, hc4, hC4⟩ := Kd.R_reads hR4)
        | ((with_reducible refine gate_dst (N := 36) rfl ?_); go_must (refine Kd.R_append_row hv no (h1 := fun _ => rfl) (w0 := w4) w1.heap.size rfl (.tmp 29) (.tmp 35) 31 32 (.slice none 0 0) 24 rfl Try.underlying31 infoH rfl (by decide) (.slice A8 hs1.length c8) hs1 [(A4, 2, c4)] (some ⟨w4.heap.size, 0, none⟩) 1 1 (fun _ => True) rfl rfl (fun _ _ => trivial) (Kd.R_alloc (Kd.R_below hRa hB4) _) (one (A4, 2, c4) 32) ((Below.refl _ _).alloc (Nat.le_trans hBa.size hB4.size) _) (Nat.le_trans (Nat.le_trans hBa.size hB4.size) (by show w4.heap.size ≤ (w4.heap.push _).size; rw [Array.size_push]; omega)) (by have := hsl0.out; omega) ?_); intro v5 w5 hR5 hB5 hG5 _))
      obtain ⟨k1, rfl⟩ : ∃ k1, gk = k1 + 1 := ⟨gk - 1, by omega⟩
      go_roundg k1
      case measure => omega
      case rel =>
        refine ⟨i + 1, hs1 ++ [(A4, 2, c4)], by first | rfl | (simp; done), ⟨by omega⟩, ⟨hR5⟩, ⟨?_⟩, ⟨?_⟩⟩
        · rw [show (i + 1).toNat = i.toNat + 1 by omega, ch_succ (by omega), show ((i.toNat : Nat) : Int) = i by omega]
          have k4 := keep_below ((Below.refl w4.heap.size w4).alloc (Nat.le_refl _) (Obj.cells #[hv (A4, 2, c4)] 32))
          have k5 := keep_grown hG5 (fun k hk => Kd.R_typed (Kd.R_alloc (Kd.R_below hRa hB4) (Obj.cells #[hv (A4, 2, c4)] 32)) k hk)
          exact ((HA.out.keep (keep_below hB4)).snoc (one_own hR4)).keep (k4.trans k5)
        · exact (hBa.trans (hB4.mono hBa.size)).trans hB5
    · have hi : i = (kk : Int) := by omega
      subst hi
      rw [Int.toNat_natCast] at HA
      have hlh : hs1.length = kk := HA.out.1.1.trans (ch_length hk1)
      obtain ⟨A8, c8, rfl⟩ := Kd.R_slice HR.out
      rw [hlh] at HR ⊢
      have hB1' := HB.out
      obtain ⟨m, hm⟩ : ∃ m : Nat, m = kk / 2 := ⟨_, rfl⟩
      have hm2 : Int.tdiv (kk : Int) 2 = (m : Int) := by rw [hm]; rfl
      go_wp2
      go_loopg [8] m (fun kq v8 w' => ∃ (p : Int) (hs2 : List Hd) (ls2 : List (List Int)), v8 = .int .i64 p ∧ Aside0 (0 ≤ p ∧ p ≤ m ∧ (kq : Int) + p = m) ∧ Aside0 (kh.R 32 w' w1.heap.size (fun _ => True) (.slice A8 kk c8) hs2 ∧ hs2.length = kk) ∧
        Aside0 (Owns w' hs2 ls2 ∧ ∀ c, c ∈ ls2 ↔ c ∈ ch kk) ∧ Aside0 (Below w1.heap.size w1 w'))
      case atStart => exact ⟨0, hs1, ch kk, rfl, ⟨by omega⟩, ⟨HR.out, hlh⟩, ⟨HA.out, fun c => Iff.rfl⟩, ⟨hB1'⟩⟩
      case round =>
        clear hlh HR HA HB
        obtain ⟨p, hs2, ls2, rfl, HI2, HR2, HA2, HB2⟩ := hrel
        have hI2 := HI2.out
        by_cases hpm : p < (m : Int)
        · have hR2 := HR2.out.1
          have hl2 := HR2.out.2
          obtain ⟨g, cap, he, -, -, -⟩ := Kd.R_form hR2 (by omega)
          injection he with he1 he2 he3
          subst he1
          clear he2 he3
          obtain ⟨P, hP⟩ : ∃ P : Int, (kk : Int) - 1 - p = P := ⟨_, rfl⟩
          have hw2 : wrap64 ((kk : Int) - 1) = (kk : Int) - 1 := by unfold wrap64; omega
          have hw3 : wrap64 P = P := by unfold wrap64; omega
          have hw4 : wrap64 (p + 1) = p + 1 := by unfold wrap64; omega
          have hp0 : 0 ≤ p ∧ p < (kk : Int) := by omega
          have hP0 : 0 ≤ P ∧ P < (kk : Int) := by omega
          have hne : P.toNat ≠ p.toNat := by omega
          obtain ⟨x1, f1⟩ := Kd.R_celln (h1 := fun _ => rfl) no hR2 p (by omega) (by omega)
          obtain ⟨x2, f2⟩ := Kd.R_celln (h1 := fun _ => rfl) no hR2 P (by omega) (by omega)
          obtain ⟨⟨a1, m1, c1⟩, hy1⟩ : ∃ y : Hd, rdOf no hs2 p = y := ⟨_, rfl⟩
          obtain ⟨⟨a2, m2, c2⟩, hy2⟩ : ∃ y : Hd, rdOf no hs2 P = y := ⟨_, rfl⟩
          rw [hy1] at x1
          rw [hy2] at x2
          have x1' : wr.cell? ⟨g, p.toNat, none⟩ = some (.slice a1 m1 c1) := x1
          have x2' : wr.cell? ⟨g, P.toNat, none⟩ = some (.slice a2 m2 c2) := x2
          have hR3 := Kd.R_putn (h1 := fun _ => rfl) hR2 p (a2, m2, c2)
          obtain ⟨x3, f3⟩ := Kd.R_celln (h1 := fun _ => rfl) no hR3 P (by omega) (by omega)
          have hR4 := Kd.R_putn (h1 := fun _ => rfl) hR3 P (a1, m1, c1)
          have x3' : (wr.setCell ⟨g, p.toNat, none⟩ (.slice a2 m2 c2)).cell? ⟨g, P.toNat, none⟩ = some (hv (rdOf no (hs2.set p.toNat (a2, m2, c2)) P)) := x3
          have f3' : (wr.setCell ⟨g, p.toNat, none⟩ (.slice a2 m2 c2)).frozen? ⟨g, P.toNat, none⟩ = false := f3
          obtain ⟨y3, hy3⟩ : ∃ y : Value, hv (rdOf no (hs2.set p.toNat (a2, m2, c2)) P) = y := ⟨_, rfl⟩
          rw [hy3] at x3'
          have hla : ls2.length = kk := HA2.out.1.1.1.symm.trans hl2
          obtain ⟨t1, ht1⟩ := Kd.R_typed hR2 g rfl
          obtain ⟨t2, ht2⟩ := Kd.R_typed hR3 g rfl
          have HA3 : Owns ((wr.setCell ⟨g, p.toNat, none⟩ (.slice a2 m2 c2)).setCell ⟨g, P.toNat, none⟩ (.slice a1 m1 c1)).drew ((hs2.set p.toNat (a2, m2, c2)).set P.toNat (a1, m1, c1)) ((ls2.set p.toNat (ls2.getD P.toNat [])).set P.toNat (ls2.getD p.toNat [])) := by
            have e := HA2.out.1.swap p.toNat P.toNat (by omega) (by omega)
            rw [show hs2.getD p.toNat no = (a1, m1, c1) from hy1, show hs2.getD P.toNat no = (a2, m2, c2) from hy2] at e
            exact e.keep (((keep_set ht1 _).trans (keep_set ht2 _)).trans (keep_below (pw_below_drewN (Below.refl _ _) 1)))
          have HM3 : ∀ c, c ∈ (ls2.set p.toNat (ls2.getD P.toNat [])).set P.toNat (ls2.getD p.toNat []) ↔ c ∈ ch kk := fun c => (swap_mem ls2 [] p.toNat P.toNat (by omega) (by omega) c).trans (HA2.out.2 c)
          have hgb : w1.heap.size ≤ g := Kd.R_base hR2 g rfl
          have hB3 : Below w1.heap.size w1 ((wr.setCell ⟨g, p.toNat, none⟩ (.slice a2 m2 c2)).setCell ⟨g, P.toNat, none⟩ (.slice a1 m1 c1)) := (HB2.out.setCell (p := ⟨g, p.toNat, none⟩) hgb _).setCell (p := ⟨g, P.toNat, none⟩) hgb _
          have hL3 : Aside0 (((hs2.set p.toNat (a2, m2, c2)).set P.toNat (a1, m1, c1)).length = kk) := ⟨by rw [List.length_set, List.length_set]; exact hl2⟩
          clear hy1 hy2 hy3 x1 x2 x3 f3 hl2 ht1 ht2
          go_wp2
          go_region
          try go_wp2
          obtain ⟨k1, rfl⟩ : ∃ k1, gk = k1 + 1 := ⟨gk - 1, by omega⟩
          go_roundg k1
          case measure => omega
          case rel => exact ⟨p + 1, _, _, rfl, ⟨by omega⟩, ⟨Kd.R_drew hR4, hL3.out⟩, ⟨HA3, HM3⟩, ⟨pw_below_drewN hB3 1⟩⟩
        · have hR2 := HR2.out.1
          have hlh := HR2.out.2
          have hOw : Aside0 (Owns wr hs2 ls2) := ⟨HA2.out.1⟩
          have hmem : Aside0 (∀ c, c ∈ ls2 ↔ c ∈ ch kk) := ⟨HA2.out.2⟩
          have hBr := HB2.out
          have hWr : ∀ x, Below wr.heap.size wr x → Below w.heap.size w x := fun x h => hBw x (hBr.trans (h.mono hBr.size))
          have hlen2 : ls2.length = kk := hOw.out.1.1.symm.trans hlh
          obtain ⟨K1, hr1⟩ := hRun.out ls2 hmem.out hlen2
          obtain ⟨zs, hzs0⟩ : ∃ zs : List Int, List.replicate kk 0 = zs := ⟨_, rfl⟩
          rw [hzs0] at hr1
          have hzs := Aside0.mk hzs0
          clear hzs0
          obtain ⟨os, hos⟩ : ∃ os : List Int, List.replicate kk 1 = os := ⟨_, rfl⟩
          have hol : os.length = kk := by rw [← hos, List.length_replicate]
          have hoa := Aside0.mk hos
          rw [hos] at hr1
          clear hos
          have hol' := Aside0.mk hol
          have hk0 : (kk : Int) = kk := rfl
          have hC2 : kh.C wr A8 kk hs2 := by have := (Kd.R_reads' hR2).2.2; rw [hlh] at this; exact this
          have hcap : kk ≤ c8 := (Kd.R_reads' hR2).2.1
          have h2 : ∀ x A6 c6, Below wr.heap.size wr x → Kd.C (Kd.int .i64) x A6 zs.length zs → zs.length ≤ c6 → Calls Try.prog 20 #[.int .i64 kk, .slice A8 kk c8, .slice A6 zs.length c6] x fun e w' => ∃ v0_ : Value, e = .returned (.tuple #[v0_, .bool false, .int .i64 0]) ∧ Kd.R (Kd.int .i64) 3 w' x.heap.size (fun _ => True) v0_ os ∧ Below x.heap.size x w' := by
            intro x A6 c6 hb hC6 hc6
            have hC := (hOw.out.keep (keep_below hb)).reads (Kd.C_below hC2 hb)
            rw [← hlen2] at hC hcap ⊢
            rw [← hlen2] at hr1
            exact unit_Run.calls K1 ls2.length A8 c8 ls2 A6 c6 zs os false 0 x hC hcap hC6 hc6 hr1
          clear hol
          go_wp2_with (first
            | ((with_reducible refine gate_dst (N := 71) rfl ?_); refine Kd.R_make (Kd.int .i64) (w0 := wr) wr.heap.size 3 rfl (N := 71) rfl 32 (.tmp 70) (.tmp 70) rfl kk rfl rfl Try.underlying32 (.int .i64 0) 8 info3 rfl (by decide) (by decide) 0 (ok := fun _ => True) (okp := fun _ => True) rfl (fun _ hk => hk) trivial (by omega) (by omega) (Below.refl _ _) (Nat.le_refl _) ?_; intro v4 w4 hR4 hB4 hG4 _; rw [Int.toNat_natCast, hzs.out] at hR4; obtain ⟨A4, c4, rfl, hc4, hC4⟩ := Kd.R_reads hR4)
            | (go_at_call 20; (with_reducible refine (h2 w4 A4 c4 hB4 hC4 hc4).mono ?_); rintro e w5 ⟨v5, rfl, hR5, hB5'⟩; have hB5 := hB4.trans (hB5'.mono hB4.size); obtain ⟨A5, c5, rfl, hc5, hC5⟩ := Kd.R_reads hR5))
          have hol := hol'.out
          rw [hol] at hC5 ⊢
          clear hol h2
          go_loopg [12] kk (fun kq v12 w' => ∃ (i : Int), v12 = .int .i64 i ∧ Aside0 (0 ≤ i ∧ i ≤ kk ∧ (kq : Int) + i = kk) ∧ w' = w5)
          case atStart => exact ⟨0, rfl, ⟨by omega⟩, rfl⟩
          case round =>
            obtain ⟨i, rfl, HI3, rfl⟩ := hrel
            have hI3 := HI3.out
            by_cases hik : i < (kk : Int)
            · obtain ⟨ad5, rfl, hx5⟩ := at_int (l := os) (by rw [hol'.out]; exact hC5) i (by omega) (by rw [hol'.out]; exact hik)
              rw [← hoa.out, rd_ones kk i (by omega) hik] at hx5
              have hb5 : 0 ≤ i ∧ i < (kk : Int) := ⟨by omega, hik⟩
              have hw5 : wrap64 (i + 1) = i + 1 := by unfold wrap64; omega
              go_wp2
              obtain ⟨k3, rfl⟩ : ∃ k3, gk = k3 + 1 := ⟨gk - 1, by omega⟩
              go_roundg k3
              case measure => omega
              case rel => exact ⟨i + 1, rfl, ⟨by omega⟩, rfl⟩
            · have hneg : wrap64 (-(kk : Int)) = -(kk : Int) := by unfold wrap64; omega
              have hneg' : IntKind.i64.wrap (-(kk : Int)) = -(kk : Int) := by rw [IntKind.wrap_i64]; omega
              have hmk := run_make_row' (P := Try.prog) 32 3 (.int .i64 0) 8 Try.underlying32 info3 rfl .i64 .i64 kk (by omega) (by omega)
              obtain ⟨K2, hr2⟩ := hBad.out ls2 hmem.out hlen2
              have h3 : ∀ x A1 c1 A6, (Kd.slice 3 (Kd.int .i64)).C x A1 (kk + 1) (ls2 ++ [[-(kk : Int)]]) → kk + 1 ≤ c1 → (Kd.int .i64).C x A6 kk (List.replicate kk 0) → Calls Try.prog 20 #[.int .i64 kk, .slice A1 (kk + 1) c1, .slice A6 kk kk] x fun e w' => ∃ v0_ : Value, e = .returned (.tuple #[v0_, .bool true, .int .i64 0]) ∧ Below x.heap.size x w' := by
                intro x A1 c1 A6 hC1 hc1 hC6
                have hl3 : (ls2 ++ [[-(kk : Int)]]).length = kk + 1 := by rw [List.length_append, hlen2]; rfl
                have := unit_Run.calls K2 kk A1 c1 (ls2 ++ [[-(kk : Int)]]) A6 kk (List.replicate kk 0) [] true 0 x (by rw [hl3]; exact hC1) (by rw [hl3]; exact hc1) (by rw [List.length_replicate]; exact hC6) (by rw [List.length_replicate]; exact Nat.le_refl _) hr2
                rw [hl3, List.length_replicate] at this
                exact this.mono fun e w' ⟨v0, he, _, hb⟩ => ⟨v0, he, hb⟩
              have hRz := Kd.R_below hR2 hB5
              have hOz := hOw.out.keep (keep_below hB5)
              have hBz : Below w1.heap.size w1 wr := hBr.trans (hB5.mono hBr.size)
              clear hr2 hlen2
              go_wp2
              go_region_law (first
                | (refine chain_append (wr := wr) (w1 := w1) (x := -(kk : Int)) (hs2 := hs2) (ls2 := ls2) rfl rfl rfl rfl rfl ?hb ?hh2 ?hh3 hRz hlh hOz hBz hk2 hBz.size ?_; (case hb => repeat (first | exact Below.refl _ _ | apply below_alloc | apply pw_below_drewN | apply below_drew)); (case hh2 => repeat (first | (refine heap_new_ ?_; first | rfl | (simp only [alloc_size, drew_size]; done) | (simp only [alloc_size, drew_size]; omega)) | apply heap_past | apply heap_drew)); (case hh3 => repeat (first | (refine heap_new_ ?_; first | rfl | (simp only [alloc_size, drew_size]; done) | (simp only [alloc_size, drew_size]; omega)) | apply heap_past | apply heap_drew)); intro A1 c1 W1 hC1 hc1 hBW hKW)
                | (refine goes_ (f := 20) (N := some 97) Try.func20 (by kernel_rfl) rfl #[.int .i64 kk, .slice A1 (kk + 1) c1, .slice (some ⟨W1.heap.size, 0, none⟩) kk kk] rfl rfl rfl ?harg ?_; (case harg => (simp only [List.map_toArray, List.map_cons, List.map_nil]; rfl)); refine (h3 _ A1 c1 (some ⟨W1.heap.size, 0, none⟩) (Kd.C_alloc hC1 _) hc1 (zeros_at hk2 (heap_new_ rfl))).mono ?_; rintro e W5 ⟨v5, rfl, hB5x⟩; refine ⟨_, rfl, ?_⟩; have hBz5 := (hBW.alloc hBW.size _).trans (hB5x.mono (hBW.alloc hBW.size _).size))
                | (refine goes_ (f := 20) (N := some 97) Try.func20 (by kernel_rfl) rfl #[.int .i64 kk, .slice A1 (kk + 1) c1, .slice (some ⟨wr.heap.size, 0, none⟩) kk kk] rfl rfl rfl ?harg ?_; (case harg => (simp only [List.map_toArray, List.map_cons, List.map_nil]; rfl)); refine (h3 W1 A1 c1 (some ⟨wr.heap.size, 0, none⟩) hC1 hc1 (zeros_at hk2 ?hz)).mono ?_; (case hz => refine keep_at hKW ?_; repeat (first | (refine heap_new_ ?_; first | rfl | (simp only [alloc_size, drew_size]; done) | (simp only [alloc_size, drew_size]; omega)) | apply heap_past | apply heap_drew)); rintro e W5 ⟨v5, rfl, hB5x⟩; refine ⟨_, rfl, ?_⟩; have hBz5 := hBW.trans (hB5x.mono hBW.size))
                | (refine goes_ (f := 20) (N := some 97) Try.func20 (by kernel_rfl) rfl #[.int .i64 kk, .slice A1 (kk + 1) c1, .slice (some ⟨(wr.heap.size + 1), 0, none⟩) kk kk] rfl rfl rfl ?harg ?_; (case harg => (simp only [List.map_toArray, List.map_cons, List.map_nil]; rfl)); refine (h3 W1 A1 c1 (some ⟨(wr.heap.size + 1), 0, none⟩) hC1 hc1 (zeros_at hk2 ?hz)).mono ?_; (case hz => refine keep_at hKW ?_; repeat (first | (refine heap_new_ ?_; first | rfl | (simp only [alloc_size, drew_size]; done) | (simp only [alloc_size, drew_size]; omega)) | apply heap_past | apply heap_drew)); rintro e W5 ⟨v5, rfl, hB5x⟩; refine ⟨_, rfl, ?_⟩; have hBz5 := hBW.trans (hB5x.mono hBW.size))
                | (refine goes_ (f := 20) (N := some 97) Try.func20 (by kernel_rfl) rfl #[.int .i64 kk, .slice A1 (kk + 1) c1, .slice (some ⟨(wr.heap.size + 2), 0, none⟩) kk kk] rfl rfl rfl ?harg ?_; (case harg => (simp only [List.map_toArray, List.map_cons, List.map_nil]; rfl)); refine (h3 W1 A1 c1 (some ⟨(wr.heap.size + 2), 0, none⟩) hC1 hc1 (zeros_at hk2 ?hz)).mono ?_; (case hz => refine keep_at hKW ?_; repeat (first | (refine heap_new_ ?_; first | rfl | (simp only [alloc_size, drew_size]; done) | (simp only [alloc_size, drew_size]; omega)) | apply heap_past | apply heap_drew)); rintro e W5 ⟨v5, rfl, hB5x⟩; refine ⟨_, rfl, ?_⟩; have hBz5 := hBW.trans (hB5x.mono hBW.size)))
              all_goals (try dsimp only [Act.put])
              all_goals go_wp2
              all_goals go_ret
              all_goals exact ⟨by first | rfl | (simp; done), hBw _ hBz5⟩
end Go.Proofs.Ytpjnacblaipljaa.Chains
