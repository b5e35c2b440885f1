/- prog.line and prog.Text, walked. -/
import Derived.Test.YtckmgoeflecpgaaDoorInstB
import Derived.Test.YtckmgoeflecpgaaDoorGBuild
import Derived.Test.YtckmgoeflecpgaaDoorWWords
import Derived.Test.YtckmgoeflecpgaaDoorWLast
import Derived.Test.YtckmgoeflecpgaaDoorWMore
import Derived.Test.YtckmgoeflecpgaaDoorPx0
import Derived.Deep.RegionHeld3
import Derived.Lib.ItoaLen
namespace Go.Proofs.YtckmgoeflecpgaaDoor.I
set_option linter.unusedVariables false
set_option linter.unusedSimpArgs false
open Go.RowKit Go.Proofs.YtckmgoeflecpgaaDoorW.PrintWords Go.Proofs.YtckmgoeflecpgaaDoorW.PrintLast Go.Proofs.YtckmgoeflecpgaaDoorW.PrintMore
/-- The table of powers reads as it was laid. -/
def HP (w : World) : Prop := Lib.TabIs Tryd.prog w "internal/strconv.uint64pow10" .u64 Lib.pow10Tab
theorem HP.below {w w' : World} (h : HP w) (hb : Below w.heap.size w w') : HP w' := by
  unfold HP Lib.TabIs World.var? at *
  cases hg : Tryd.prog.globalNamed "internal/strconv.uint64pow10" with
  | none => simp [hg] at h
  | some g =>
    simp only [hg, Option.bind_some] at h ⊢
    have hlt : g < w.heap.size := by
      rcases Nat.lt_or_ge g w.heap.size with h' | h'
      · exact h'
      · rw [Array.getElem?_eq_none h'] at h; simp at h
    rw [hb.block g hlt]
    exact h
def itoaB (n : Int) : ByteArray := ⟨(Lib.itoa n).toArray⟩
def lineV (op x : Int) : ByteArray := if mayI op x = true then (if (kindOf op).2.2 ≤ 1 then nameOf op else nameOf op ++ ⟨#[32]⟩ ++ itoaB x) else ⟨#[63]⟩
theorem itoaB_size (n : Int) (h0 : -9223372036854775808 ≤ n) (h1 : n ≤ 9223372036854775807) : (itoaB n).size ≤ 21 := by
  have := Lib.itoa_length_le n h0 h1
  show (Lib.itoa n).toArray.size ≤ 21
  simpa using this
theorem names_size : ∀ b ∈ names, b.size ≤ 8 := by
  have : names.all (fun b => decide (b.size ≤ 8)) = true := by kernel_rfl
  intro b hb
  exact of_decide_eq_true (List.all_eq_true.1 this b hb)
theorem nameOf_size (op : Int) : (nameOf op).size ≤ 8 := by
  unfold nameOf
  split
  · rw [List.getD_eq_getElem?_getD]
    cases h : names[(op - 1).toNat]? with
    | none => exact Nat.zero_le _
    | some b => exact names_size b (List.mem_of_getElem? h)
  · exact Nat.zero_le _
theorem app_size (a b : ByteArray) : (a ++ b).size = a.size + b.size := ByteArray.size_append
theorem lineV_size (op x : Int) (h0 : -9223372036854775808 ≤ x) (h1 : x ≤ 9223372036854775807) : (lineV op x).size ≤ 30 := by
  have a := nameOf_size op
  have b := itoaB_size x h0 h1
  unfold lineV
  split
  · split
    · omega
    · rw [app_size, app_size]; show _ + 1 + _ ≤ 30; omega
  · show 1 ≤ 30; omega
theorem itoaC (n : Int) (h0 : -9223372036854775808 ≤ n) (h1 : n ≤ 9223372036854775807) (w : World) (hp : HP w) : Calls Tryd.prog 25 #[.int .i64 n] w fun e w' => e = .returned (.string (itoaB n)) ∧ Below w.heap.size w w' :=
  (Tryd.strconv_Itoa n h0 h1 w hp).mono fun e w' ⟨he, k, os, hw⟩ => ⟨he, by
    rw [hw]
    exact ⟨rfl, rfl, rfl, by show w.heap.size ≤ (w.heap ++ os).size; rw [Array.size_append]; omega, fun j hj => by
      show (w.heap ++ os)[j]? = w.heap[j]?
      rw [Array.getElem?_append_left hj]⟩⟩
theorem cell_keep {w w1 : World} {p : Addr} {v : Value} (h : w.cell? p = some v) (hb : Below w.heap.size w w1) : w1.cell? p = some v := (hb.cell (World.block_lt_of_cell? _ _ h)).trans h
set_option maxHeartbeats 2000000 in
set_option maxRecDepth 100000 in
theorem line26 (op x : Int) (h0 : -9223372036854775808 ≤ x) (h1 : x ≤ 9223372036854775807) (w : World) (hT : HT w) (hP : HP w) :
    Calls Tryd.prog 26 #[.agg #[.int .i64 op, .int .i64 x]] w fun e w' => e = .returned (.string (lineV op x)) ∧ Below w.heap.size w w' := by
  have hM := Aside.mk (may28 op x)
  have hPl := Aside.mk (plain31 op)
  have hN := Aside.mk (name32 op)
  have hI := Aside.mk (itoaC x h0 h1)
  have hv : Aside (lineV op x = if mayI op x = true then (if decide ((kindOf op).2.2 ≤ 1) = true then nameOf op else nameOf op ++ ⟨#[32]⟩ ++ itoaB x) else ⟨#[63]⟩) := ⟨by unfold lineV; simp only [decide_eq_true_eq]⟩
  have s1 := nameOf_size op
  have s2 := itoaB_size x h0 h1
  generalize mayI op x = b1 at *
  generalize decide ((kindOf op).2.2 ≤ 1) = b2 at *
  generalize nameOf op = nm at *
  generalize itoaB x = im at *
  generalize lineV op x = r at *
  have hTA := Aside.mk hT
  have hPA := Aside.mk hP
  clear hT hP h0 h1
  have z1 : ¬ (9223372036854775807 < nm.size + 1) := by omega
  have z2 : ¬ (9223372036854775807 < nm.size + 1 + im.size) := by omega
  clear s1 s2
  have hB0 : Below w.heap.size w (w.alloc (.cells #[.int .i64 op, .int .i64 x] 41)) := below_alloc (Below.refl _ _) _
  have hz : w.heap.size < (w.alloc (.cells #[.int .i64 op, .int .i64 x] 41)).heap.size := alloc_lt w _
  have d0 : (w.alloc (.cells #[.int .i64 op, .int .i64 x] 41)).cell? ⟨w.heap.size, 0, none⟩ = some (.int .i64 op) := by rw [World.cell?_alloc_mark]; rfl
  have d1 : (w.alloc (.cells #[.int .i64 op, .int .i64 x] 41)).cell? ⟨w.heap.size, 1, none⟩ = some (.int .i64 x) := by rw [World.cell?_alloc_mark]; rfl
  cases b1
  · go_enter Tryd.func26, Tryd.ntmps26
    go_wp2_with (go_at_call 28; refine (hM.out _).mono ?_; rintro e w1 ⟨rfl, hB1⟩)
    go_ret
    exact ⟨by rw [hv.out]; rfl, hB0.trans (hB1.mono hB0.size)⟩
  · cases b2
    · go_enter Tryd.func26, Tryd.ntmps26
      go_wp2_with (first
        | (go_at_call 28; refine (hM.out _).mono ?_; rintro e w1 ⟨rfl, hB1⟩; have c0 := cell_keep d0 hB1; have c1 := cell_keep d1 hB1; have e1 := hB0.trans (hB1.mono hB0.size))
        | (go_at_call 31; refine (hPl.out _).mono ?_; rintro e w2 ⟨rfl, hB2⟩; have f0 := cell_keep c0 hB2; have f1 := cell_keep c1 hB2; have e2 := e1.trans (hB2.mono e1.size)))
      go_region_law (first
        | (refine goes_ (f := 32) (N := some 16) Tryd.func32 (by kernel_rfl) rfl #[.int .i64 op] rfl rfl rfl ?harg ?_; (case harg => (simp only [List.map_toArray, List.map_cons, List.map_nil]; rfl)); refine (hN.out _ ?ht).mono ?_; (case ht => exact hTA.out.below (by repeat (first | exact e2 | apply pw_below_drewN | apply below_drew))); rintro e w3 ⟨rfl, hB3⟩; refine ⟨_, rfl, ?_⟩; have g0 := cell_keep (w := w2.drew) f0 hB3; have g1 := cell_keep (w := w2.drew) f1 hB3; have e3 := (below_drew1 e2).trans (hB3.mono e2.size))
        | (refine goes_ (f := 25) (N := some 20) Tryd.func25 (by kernel_rfl) rfl #[.int .i64 x] rfl rfl rfl ?harg ?_; (case harg => (simp only [List.map_toArray, List.map_cons, List.map_nil]; rfl)); refine (hI.out _ ?ht).mono ?_; (case ht => exact hPA.out.below (by repeat (first | exact e3 | apply pw_below_drewN | apply below_drew))); rintro e w4 ⟨rfl, hB4⟩; refine ⟨_, rfl, ?_⟩; have e4 := e3.trans (hB4.mono e3.size)))
      all_goals go_wp2
      all_goals
        go_ret
        refine ⟨by rw [hv.out]; rfl, ?_⟩
        repeat (first | exact e4 | apply pw_below_drewN | apply below_drew)
    · go_enter Tryd.func26, Tryd.ntmps26
      go_wp2_with (first
        | (go_at_call 28; refine (hM.out _).mono ?_; rintro e w1 ⟨rfl, hB1⟩; have c0 := cell_keep d0 hB1; have c1 := cell_keep d1 hB1; have e1 := hB0.trans (hB1.mono hB0.size))
        | (go_at_call 31; refine (hPl.out _).mono ?_; rintro e w2 ⟨rfl, hB2⟩; have f0 := cell_keep c0 hB2; have f1 := cell_keep c1 hB2; have e2 := e1.trans (hB2.mono e1.size))
        | (go_at_call 32; refine (hN.out _ (hTA.out.below e2)).mono ?_; rintro e w3 ⟨rfl, hB3⟩; have e3 := e2.trans (hB3.mono e2.size)))
      go_ret
      exact ⟨by rw [hv.out]; rfl, e3⟩
open Go.Proofs.YtckmgoeflecpgaaDoor.P
/-- One line. -/
def oneB (k : Nat) (x : S41) : ByteArray := itoaB (k : Int) ++ ⟨#[32]⟩ ++ lineV x.f0 x.f1 ++ ⟨#[10]⟩
def textGo : Nat → List S41 → List UInt8
  | _, [] => []
  | k, x :: r => (oneB k x).data.toList ++ textGo (k + 1) r
theorem textGo_snoc (x : S41) : ∀ (l : List S41) (k : Nat), textGo k (l ++ [x]) = textGo k l ++ (oneB (k + l.length) x).data.toList
  | [], k => by simp [textGo]
  | y :: l, k => by
    rw [List.cons_append, textGo, textGo, textGo_snoc x l (k + 1), List.append_assoc, List.length_cons, show k + 1 + l.length = k + (l.length + 1) by omega]
def okI (l : List S41) : Prop := ∀ x ∈ l, -9223372036854775808 ≤ x.f1 ∧ x.f1 ≤ 9223372036854775807
theorem oneB_size (k : Nat) (hk : k ≤ 1000000) (x : S41) (h : -9223372036854775808 ≤ x.f1 ∧ x.f1 ≤ 9223372036854775807) : (oneB k x).size ≤ 60 := by
  have a := itoaB_size (k : Int) (by omega) (by omega)
  have b := lineV_size x.f0 x.f1 h.1 h.2
  unfold oneB
  rw [app_size, app_size, app_size]
  show _ + 1 + _ + 1 ≤ 60
  omega
theorem textGo_len : ∀ (l : List S41) (k : Nat), k + l.length ≤ 1000000 → okI l → (textGo k l).length ≤ 60 * l.length
  | [], _, _, _ => Nat.zero_le _
  | x :: l, k, hk, ho => by
    rw [List.length_cons] at hk
    have a := oneB_size k (by omega) x (ho x List.mem_cons_self)
    have b := textGo_len l (k + 1) (by omega) (fun y hy => ho y (List.mem_cons_of_mem _ hy))
    rw [textGo, List.length_append, List.length_cons, Array.length_toList]
    have c : (oneB k x).data.size ≤ 60 := a
    omega
def textV (l : List S41) : ByteArray := ⟨(textGo 0 l).toArray⟩
theorem builder_below {B b : Nat} {bs : List Value} {w w' : World} (h : Lib.IsBuilder 61 5 B b bs w) (hb : Below w.heap.size w w') : Lib.IsBuilder 61 5 B b bs w' := by
  have key : ∀ p, Lib.BuilderAt 61 5 B b p bs w → Lib.BuilderAt 61 5 B b p bs w' := by
    intro p hp
    have hlt := hp.lt
    obtain ⟨h1, v, h2, h3, h4⟩ := hp
    exact ⟨h1, v, (hb.block b hlt).trans h2, own_move h3 (fun k hk => hb.block k (own_lt h3 k hk)), h4⟩
  exact h.imp (key _) (key _)
set_option maxHeartbeats 4000000 in
set_option maxRecDepth 100000 in
theorem text19 (A : Option Addr) (n c : Nat) (L : List S41) (u : Value) (w : World) (hu : u.oneCell' = true) (hL : L.length = n) (hn : n ≤ 100000) (hc : n ≤ c) (hr : Kd.C k41 w A n L) (ok : okI L) (hT : HT w) (hP : HP w) :
    Calls Tryd.prog 19 #[.agg #[.slice A n c, u]] w fun e w' => e = .returned (.string (textV L)) ∧ Below w.heap.size w w' := by
  have HL := Aside0.mk hL
  have HR := Aside0.mk hr
  have HO := Aside0.mk ok
  have HHT := Aside0.mk hT
  have HHP := Aside0.mk hP
  clear hL hr ok hT hP
  obtain ⟨u0, rfl⟩ : ∃ u0, u = u0 := ⟨_, rfl⟩
  go_enter Tryd.func19, Tryd.ntmps19
  go_wp2_with fail
  have hB0 : Below w.heap.size w ((w.alloc (Obj.cells #[Value.slice A n c, u] 25)).alloc (Obj.cells #[Value.pointer none, Value.slice none 0 0] 61)) := below_alloc (below_alloc (Below.refl _ _) _) _
  have hI0 : Lib.IsBuilder 61 5 (w.heap.size + 1) (w.heap.size + 1) (Lib.byteCells []) ((w.alloc (Obj.cells #[Value.slice A n c, u] 25)).alloc (Obj.cells #[Value.pointer none, Value.slice none 0 0] 61)) := by
    have := Lib.fresh_isBuilder 61 5 (w.alloc (Obj.cells #[Value.slice A n c, u] 25))
    rw [World.size_alloc] at this
    exact this
  have HI0 := Aside0.mk hI0
  have HB0 := Aside0.mk hB0
  clear hI0 hB0
  go_loopw [9] (fun v9 wr => ∃ k : Nat, v9 = .int .i64 (k : Int) ∧ k ≤ n ∧ Aside0 (Lib.IsBuilder 61 5 (w.heap.size + 1) (w.heap.size + 1) (Lib.byteCells (textGo 0 (L.take k))) wr) ∧ Aside0 (Below w.heap.size w wr) ∧ Aside0 (w.heap.size + 1 < wr.heap.size)) (fun v9 _ => n - (intOf v9).toNat)
  case atStart => exact ⟨0, rfl, Nat.zero_le _, HI0, HB0, ⟨by rw [World.size_alloc, World.size_alloc]; omega⟩⟩
  case round =>
    obtain ⟨k, rfl, hkn, HI, HB, HS⟩ := hrel
    clear HI0 HB0
    by_cases hk : k < n
    · obtain ⟨ad, rfl, x0, x1⟩ := at_T41 (Kd.C_below HR.out HB.out) (k : Int) (by omega) (by omega)
      obtain ⟨x, hx⟩ : ∃ x, rd_T41 L (k : Int) = x := ⟨_, rfl⟩
      rw [hx, Int.toNat_natCast] at x0 x1
      have hxm : L[k]? = some x := by
        rw [← hx]
        unfold rd_T41
        rw [Int.toNat_natCast, List.getD_eq_getElem?_getD, List.getElem?_eq_getElem (by rw [HL.out]; exact hk)]
        rfl
      have hxo := HO.out x (List.mem_of_getElem? hxm)
      have htk : L.take (k + 1) = L.take k ++ [x] := by
        rw [List.take_add_one, hxm]; rfl
      have hlen : (textGo 0 (L.take k)).length ≤ 60 * 100000 := by
        have h1 := textGo_len (L.take k) 0 (by rw [List.length_take]; omega) (fun y hy => HO.out y (List.mem_of_mem_take hy))
        rw [List.length_take] at h1
        omega
      have hob := oneB_size k (by omega) x hxo
      have hib := itoaB_size (k : Int) (by omega) (by omega)
      have hlb := lineV_size x.f0 x.f1 hxo.1 hxo.2
      have hnext : textGo 0 (L.take (k + 1)) = textGo 0 (L.take k) ++ (oneB k x).data.toList := by
        rw [htk, textGo_snoc, List.length_take, Nat.zero_add, Nat.min_eq_left (by rw [HL.out]; omega)]
      have HNX := Aside0.mk hnext
      have HI1 := Aside0.mk (fun W hp => itoaC (k : Int) (by omega) (by omega) W hp)
      have HI2 := Aside0.mk (fun W ht hp => line26 x.f0 x.f1 hxo.1 hxo.2 W ht hp)
      have e3 : itoaB (k : Int) ++ ⟨#[32]⟩ ++ lineV x.f0 x.f1 ++ ⟨#[10]⟩ = oneB k x := rfl
      have HE3 := Aside0.mk e3
      have HOB := Aside0.mk hob
      have HLEN := Aside0.mk hlen
      generalize itoaB (k : Int) = im at *
      generalize lineV x.f0 x.f1 = lm at *
      have z1 : ¬ (9223372036854775807 < im.size + 1) := by omega
      have z2 : ¬ (9223372036854775807 < im.size + 1 + lm.size) := by omega
      have z3 : ¬ (9223372036854775807 < im.size + 1 + lm.size + 1) := by omega
      clear hx hxm hxo htk hlen hob hib hlb hnext e3
      have hkt : decide ((k : Int) < (n : Int)) = true := decide_eq_true (by omega)
      go_wp2_with fail
      have hB5 : Below wr.heap.size wr (wr.alloc (Obj.cells #[Value.int IntKind.i64 x.f0, Value.int IntKind.i64 x.f1] 41)) := below_alloc (Below.refl _ _) _
      have d0 : (wr.alloc (Obj.cells #[Value.int IntKind.i64 x.f0, Value.int IntKind.i64 x.f1] 41)).cell? ⟨wr.heap.size, 0, none⟩ = some (.int .i64 x.f0) := by rw [World.cell?_alloc_mark]; rfl
      have d1 : (wr.alloc (Obj.cells #[Value.int IntKind.i64 x.f0, Value.int IntKind.i64 x.f1] 41)).cell? ⟨wr.heap.size, 1, none⟩ = some (.int .i64 x.f1) := by rw [World.cell?_alloc_mark]; rfl
      clear x0 x1
      go_region_law (first
        | (refine goes_ (f := 25) (N := some 15) Tryd.func25 (by kernel_rfl) rfl #[.int .i64 (k : Int)] rfl rfl rfl ?harg ?_; (case harg => (simp only [List.map_toArray, List.map_cons, List.map_nil]; rfl)); refine (HI1.out _ ?ht).mono ?_; (case ht => exact HHP.out.below (below_drew1 (HB.out.trans (hB5.mono HB.out.size)))); rintro e w3 ⟨rfl, hB3⟩; refine ⟨_, rfl, ?_⟩; have g0 := cell_keep (w := (wr.alloc (Obj.cells #[Value.int IntKind.i64 x.f0, Value.int IntKind.i64 x.f1] 41)).drew) d0 hB3; have g1 := cell_keep (w := (wr.alloc (Obj.cells #[Value.int IntKind.i64 x.f0, Value.int IntKind.i64 x.f1] 41)).drew) d1 hB3; have e3 := (below_drew1 hB5).trans (hB3.mono hB5.size))
        | (refine goes_ (f := 26) (N := some 18) Tryd.func26 (by kernel_rfl) rfl #[.agg #[.int .i64 x.f0, .int .i64 x.f1]] rfl rfl rfl ?harg ?_; (case harg => (simp only [List.map_toArray, List.map_cons, List.map_nil]; rfl)); refine (HI2.out _ ?ht ?hp).mono ?_; (case ht => exact HHT.out.below (HB.out.trans (e3.mono HB.out.size))); (case hp => exact HHP.out.below (HB.out.trans (e3.mono HB.out.size))); rintro e w4 ⟨rfl, hB4⟩; refine ⟨_, rfl, ?_⟩; have e4 := e3.trans (hB4.mono e3.size))
        | (refine goes_ (f := 24) (N := some 21) Tryd.func24 (by kernel_rfl) rfl #[.pointer (some ⟨w.heap.size + 1, 0, none⟩), .string (oneB k x)] rfl rfl rfl ?harg ?_; (case harg => (simp only [List.map_toArray, List.map_cons, List.map_nil]; rw [← HE3.out]; rfl)); refine (ws _ _ _ (oneB k x) _ (builder_below HI.out e4) ?hl ?hbw).mono ?_; (case hl => rw [Lib.byteCells_length]; have := HOB.out; have := HLEN.out; omega); (case hbw => have := e4.size; have := HS.out; omega); rintro e w5 ⟨rfl, hI5, hB5'⟩; refine ⟨_, rfl, ?_⟩))
      all_goals go_wp2
      all_goals
        go_roundw
        case rel =>
          refine ⟨k + 1, by go_num, by omega, ⟨?_⟩, ⟨?_⟩, ⟨?_⟩⟩
          · rw [HNX.out, Lib.byteCells_append, ← Lib.strCells_eq]; exact .inr hI5
          · exact (HB.out.trans (e4.mono HB.out.size)).trans (hB5'.mono (by omega))
          · have := e4.size; have := hB5'.size; have := HS.out; omega
        case measure => simp [intOf]; omega
    · have hkn2 : k = n := by omega
      subst hkn2
      have hkt : decide ((k : Int) < (k : Int)) = false := decide_eq_false (by omega)
      have htk : L.take k = L := List.take_of_length_le (by rw [HL.out]; omega)
      rw [htk] at HI
      have hbw := HS.out
      go_wp2_with (go_at_call 27; refine (Tryd.Builder_String_any (w.heap.size + 1) (w.heap.size + 1) (textGo 0 L) _ HI.out (by omega)).mono ?_; rintro e w2 ⟨rfl, hB2⟩)
      go_ret
      exact ⟨rfl, HB.out.trans (hB2.mono (by omega))⟩
end Go.Proofs.YtckmgoeflecpgaaDoor.I
