/- tar.one, walked. -/
import Derived.Test.YtlnogacjebbepaaDoorTarL
import Derived.Test.YtlnogacjebbepaaDoorGHead
import Derived.Test.YtlnogacjebbepaaDoorGZero
import Derived.Test.YtlnogacjebbepaaDoorGClone
namespace Go.Proofs.YtlnogacjebbepaaDoor.G
set_option linter.unusedVariables false
set_option linter.unusedSimpArgs false
open Go.RowKit Go.Proofs.YtlnogacjebbepaaDoor.P Go.Proofs.YtlnogacjebbepaaDoor.H Go.Proofs.YtlnogacjebbepaaDoorW.PrintWords Go.Proofs.YtlnogacjebbepaaDoorW.PrintLast Go.Proofs.YtlnogacjebbepaaDoorW.PrintMore
def sumField (L : List Int) : List Int := (L.take 156).drop 148
def sumOk (L : List Int) : Bool := (strOfNums (sumField L)).toList == (strOfNums (octV (sumV L) 6 ++ [32])).toList
theorem cutM (A : Option Addr) (c : Nat) (xs : List Int) (lo hi n m : Nat) (hn : xs.length = n) (h1 : lo ≤ hi) (h2 : hi ≤ n) (hc : n ≤ c) (hm : m = hi - lo) :
    ∃ A', (∀ W : World, (Instr.slice 25 (.slice A n c) (some (.int .i64 (lo : Int))) (some (.int .i64 (hi : Int))) none).run Tryd.prog W = .ok (.slice A' m (c - lo)) W) ∧
      (∀ (W : World) ok, Kd.F (Kd.int .u8) W ok A n xs → Kd.F (Kd.int .u8) W ok A' m ((xs.take hi).drop lo)) ∧ ((xs.take hi).drop lo).length = m := by
  obtain ⟨i5, hi5, _, hz, _⟩ := info_parts P.info5
  have hl : ((xs.take hi).drop lo).length = m := by rw [List.length_drop, List.length_take]; omega
  refine ⟨if c = lo then A else A.map (·.add (lo * 1)), fun W => ?_, fun W ok h => ?_, hl⟩
  · have := cut_mid 25 5 .i64 .i64 Tryd.underlying25 hi5 1 hz A n c (lo : Int) (hi : Int) (by omega) (by omega) (by omega) hc W
    simp only [Int.toNat_natCast] at this
    rw [this, hm]
  · subst hn
    have := Kd.F_mid (lo := lo) (hi := hi) (c := c) h h1 h2 hc
    rw [hl] at this
    exact this
theorem cutT (A : Option Addr) (c : Nat) (xs : List Int) (hi n : Nat) (hn : xs.length = n) (h2 : hi ≤ n) (hc : n ≤ c) :
    (∀ W : World, (Instr.slice 25 (.slice A n c) none (some (.int .i64 (hi : Int))) none).run Tryd.prog W = .ok (.slice A hi c) W) ∧
      (∀ (W : World) ok, Kd.F (Kd.int .u8) W ok A n xs → Kd.F (Kd.int .u8) W ok A hi (xs.take hi)) ∧ (xs.take hi).length = hi := by
  obtain ⟨i5, hi5, _, hz, _⟩ := info_parts P.info5
  subst hn
  have hl : (xs.take hi).length = hi := by rw [List.length_take]; omega
  refine ⟨fun W => ?_, fun W ok h => ?_, hl⟩
  · have := (print_take_of (Value.int .u8) (0 : Int) 25 5 .i64 Tryd.underlying25 hi5 hz A c xs (hi : Int) (by omega) (by omega) hc).1 W
    simp only [Int.toNat_natCast] at this
    rw [this, hl]
  · have := Kd.F_take (m := hi) h h2
    rw [hl] at this
    exact this
theorem cutD (A : Option Addr) (c : Nat) (xs : List Int) (lo n m : Nat) (hn : xs.length = n) (h2 : lo ≤ n) (hc : n ≤ c) (hm : m = n - lo) :
    ∃ A', (∀ W : World, (Instr.slice 25 (.slice A n c) (some (.int .i64 (lo : Int))) none none).run Tryd.prog W = .ok (.slice A' m (c - lo)) W) ∧
      (∀ (W : World) ok, Kd.F (Kd.int .u8) W ok A n xs → Kd.F (Kd.int .u8) W ok A' m (xs.drop lo)) ∧ (xs.drop lo).length = m := by
  obtain ⟨i5, hi5, _, hz, _⟩ := info_parts P.info5
  subst hn
  have hl : (xs.drop lo).length = m := by rw [List.length_drop]; omega
  have hel : Tryd.prog.elem 25 = 5 := by simp [Program.elem, Tryd.underlying25]
  have hu : Tryd.prog.underlying 25 = some (.slice (Tryd.prog.elem 25)) := by rw [hel]; exact Tryd.underlying25
  refine ⟨if c = lo then A else A.map (·.add (lo * 1)), fun W => ?_, fun W ok h => ?_, hl⟩
  · rw [run_slice_l W 25 A xs.length c hu .i64 (lo : Int) (by omega) (by omega), hel, hm]
    simp [sizeOf, typeInfo, hi5, hz, sliced, Result.andThen]
  · have := Kd.F_cut (m := lo) (c := c) h h2 hc
    rw [hl] at this
    exact this
theorem sumC (H : List Int) (hl : H.length = 512) (A : Option Addr) (c : Nat) (hc : 512 ≤ c) (W : World) (hC : Kd.C (Kd.int .u8) W A 512 H) : Calls Tryd.prog 15 #[.slice A 512 c] W fun e w' => e = .returned (.int .i64 (sumV H)) ∧ Drawn0 W w' := by
  obtain ⟨k, hk⟩ := (sum_ev H (by omega)).rounds
  have h := tar_Sum.calls k A c H (sumV H) W (by rw [hl]; exact hC) (by omega) hk
  rw [hl] at h
  exact h
theorem octC (n : Int) (d : Nat) (hd : d ≤ 100) (W : World) : Calls Tryd.prog 26 #[.int .i64 n, .int .i64 (d : Int)] W fun e w' => ∃ A c, e = .returned (.slice A (octV n d).length c) ∧ Kd.R (Kd.int .u8) 5 w' W.heap.size (fun _ => True) (.slice A (octV n d).length c) (octV n d) ∧ Below W.heap.size W w' := by
  obtain ⟨k, hk⟩ := (oct_ev n d hd).rounds
  refine (tar_octal.calls k n (d : Int) _ W hk).mono ?_
  rintro e w' ⟨v, rfl, hR, hB⟩
  obtain ⟨A, c, rfl⟩ := Kd.R_slice hR
  exact ⟨A, c, rfl, Kd.R_mono hR (fun _ _ => trivial), hB⟩
theorem eqC (A0 : Option Addr) (n0 c0 : Nat) (l0 : List Int) (A1 : Option Addr) (n1 c1 : Nat) (l1 : List Int) (h0 : l0.length = n0) (h1 : l1.length = n1) (W : World) (hr0 : Kd.C (Kd.int .u8) W A0 n0 l0) (hc0 : n0 ≤ c0) (hr1 : Kd.C (Kd.int .u8) W A1 n1 l1) (hc1 : n1 ≤ c1) :
    Calls Tryd.prog 28 #[.slice A0 n0 c0, .slice A1 n1 c1] W fun e w' => e = .returned (.bool ((strOfNums l0).toList == (strOfNums l1).toList)) ∧ Drawn0 W w' := by
  subst h0
  subst h1
  refine (bytes_Equal.calls A0 c0 l0 A1 c1 l1 _ W hr0 hc0 hr1 hc1 rfl).mono ?_
  rintro e w' ⟨rfl, hB⟩
  exact ⟨rfl, hB⟩
def badR : ByteArray × Bool × List Int × List Int × Int := (⟨#[]⟩, false, [], [], 4)
def nameOf (L : List Int) : List Int := if 0 ≤ Lib.indexByte (Lib.bytesOf L) 0 then L.take (Lib.indexByte (Lib.bytesOf L) 0).toNat else L
def oneFile (H B : List Int) (n : Nat) : S44 := ⟨strOfNums (nameOf (H.take 100)), rd H 156 == 53, B.take n⟩
def oneV (l : List Int) : ByteArray × Bool × List Int × List Int × Int :=
  if sumOk (l.take 512) = false then (⟨#[]⟩, false, [], [], 14)
  else if (numV (((l.take 512).take 135).drop 124)).2 = false then badR
  else if (l.drop 512).length < blk (numV (((l.take 512).take 135).drop 124)).1.toNat * 512 then badR
  else if mayV [oneFile (l.take 512) (l.drop 512) (numV (((l.take 512).take 135).drop 124)).1.toNat] ≠ 0 then badR
  else if ((strOfNums (headL (oneFile (l.take 512) (l.drop 512) (numV (((l.take 512).take 135).drop 124)).1.toNat).f0 (oneFile (l.take 512) (l.drop 512) (numV (((l.take 512).take 135).drop 124)).1.toNat).f1 ((oneFile (l.take 512) (l.drop 512) (numV (((l.take 512).take 135).drop 124)).1.toNat).f2.length : Int))).toList == (strOfNums (l.take 512)).toList) = false then badR
  else if zeroB (((l.drop 512).take (blk (numV (((l.take 512).take 135).drop 124)).1.toNat * 512)).drop (numV (((l.take 512).take 135).drop 124)).1.toNat) = false then badR
  else ((oneFile (l.take 512) (l.drop 512) (numV (((l.take 512).take 135).drop 124)).1.toNat).f0, (oneFile (l.take 512) (l.drop 512) (numV (((l.take 512).take 135).drop 124)).1.toNat).f1, (oneFile (l.take 512) (l.drop 512) (numV (((l.take 512).take 135).drop 124)).1.toNat).f2, (l.drop 512).drop (blk (numV (((l.take 512).take 135).drop 124)).1.toNat * 512), 0)
def oneP (P0_ : Nat → Prop) (w : World) (r : ByteArray × Bool × List Int × List Int × Int) (e : Ending) (w' : World) : Prop :=
  ∃ v0_ v1_ : Value, e = .returned (.tuple #[.agg #[.string r.1, .bool r.2.1, v0_], v1_, .int .i64 r.2.2.2.2]) ∧ Kd.R (Kd.int .u8) 5 w' w.heap.size (fun _ => True) v0_ r.2.2.1 ∧ Kd.V (Kd.int .u8) 5 w' w.heap.size (fun k_ => (P0_ k_ ∨ w.heap.size ≤ k_) ∧ some k_ ≠ v0_.ownBlock) v1_ r.2.2.2.1 ∧ Below w.heap.size w w'
theorem oneP_bad {P0_ : Nat → Prop} {w W : World} (k : Int) (u0 u1 u2 : Value) (h : Below w.heap.size w W) : oneP P0_ w (⟨#[]⟩, false, [], [], k) (.returned (.tuple #[.agg #[.string ⟨#[]⟩, .bool false, .slice none 0 0], .slice none 0 0, .int .i64 k])) (((W.setCell ⟨w.heap.size, 0, none⟩ u0).setCell ⟨w.heap.size, 1, none⟩ u1).setCell ⟨w.heap.size, 2, none⟩ u2) :=
  ⟨_, _, rfl, Kd.R_nil _ _ _ _ _, Kd.V_nil _ _ _ _ _, below_set (below_set (below_set h (Nat.le_refl _)) (Nat.le_refl _)) (Nat.le_refl _)⟩
theorem orw (n d : Int) (h0 : 0 ≤ n) (h1 : n ≤ 65536) (h2 : 0 ≤ d) (h3 : d < 8) : Go.bits .or .i64 (wrap64 (n * 8)) (d % 256) = n * 8 + d := by
  rw [w64 (by omega), Int.emod_eq_of_lt h2 (by omega)]
  refine bits_join .i64 62 (by decide) (fun n h0 h1 => ?_) 3 (n * 8) d (by omega) (by omega) (by omega) h2 (by omega) (by omega)
  rw [IntKind.wrap_i64]
  omega
theorem numL_ok : ∀ (L : List Int) (n r : Int), numL n L = (r, true) → 0 ≤ n → n ≤ 524295 → 0 ≤ r ∧ r ≤ 524295
  | [], n, r, h, h0, h1 => by
    simp only [numL, Prod.mk.injEq] at h
    omega
  | x :: L, n, r, h, h0, h1 => by
    rw [numL] at h
    by_cases c : x < 48 ∨ 55 < x ∨ 65536 < n
    · rw [if_pos c] at h; cases h
    · rw [if_neg c, orw n (x - 48) h0 (by omega) (by omega) (by omega)] at h
      exact numL_ok L _ r h (by omega) (by omega)
theorem numC (L : List Int) (n : Nat) (hl : L.length = n) (hn : n ≤ 100000) (A : Option Addr) (c : Nat) (hc : n ≤ c) (W : World) (hC : Kd.C (Kd.int .u8) W A n L) : Calls Tryd.prog 29 #[.slice A n c] W fun e w' => e = .returned (.tuple #[.int .i64 (numV L).1, .bool (numV L).2]) ∧ Drawn0 W w' := by
  subst hl
  obtain ⟨k, hk⟩ := (number_ev L hn).rounds
  exact tar_number.calls k A c L _ _ W hC hc hk
theorem blkC (m : Nat) (hm : m ≤ 1000000000000) (W : World) : Calls Tryd.prog 20 #[.int .i64 (m : Int)] W fun e w' => e = .returned (.int .i64 (blk m : Int)) ∧ Drawn0 W w' := tar_blocks.calls _ _ W (blocks_eq m hm)
theorem mayC (x : S44) (A : Option Addr) (W : World) (hC : Kd.C k44 W A 1 [x]) : Calls Tryd.prog 18 #[.slice A 1 1] W fun e w' => e = .returned (.int .i64 (mayV [x])) ∧ Below W.heap.size W w' := by
  obtain ⟨k, hk⟩ := (may_ev [x] (by simp)).rounds
  exact tar_may.calls k A 1 [x] _ W hC (Nat.le_refl _) hk
theorem headC (x : S44) (A : Option Addr) (n c : Nat) (hn : x.f2.length = n) (hc : n ≤ c) (W : World) (hr : Kd.C (Kd.int .u8) W A n x.f2) (h1 : x.f0.size ≤ 99) (h2 : n ≤ 9223372036854775807) :
    Calls Tryd.prog 19 #[.agg #[.string x.f0, .bool x.f1, .slice A n c]] W fun e w' => ∃ A' c', e = .returned (.slice A' 512 c') ∧ 512 ≤ c' ∧ Kd.C (Kd.int .u8) w' A' 512 (headL x.f0 x.f1 (x.f2.length : Int)) ∧ Below W.heap.size W w' := by
  subst hn
  have hf : tar_head.f x.f0 x.f1 x.f2 = some (headL x.f0 x.f1 (x.f2.length : Int)) := by unfold tar_head.f; rw [if_pos h1, if_pos h2]
  refine (tar_head.calls x.f0 x.f1 A c x.f2 _ W hr hc hf).mono ?_
  have hl := headL_len x.f0 x.f1 (x.f2.length : Int) h1
  generalize headL x.f0 x.f1 (x.f2.length : Int) = L at *
  rintro e w' ⟨v, rfl, hR, hB⟩
  obtain ⟨A', c', rfl, h3, h4⟩ := Kd.R_reads hR
  rw [hl] at h3 h4
  exact ⟨A', c', by rw [hl], h3, h4, hB⟩
theorem zeroC (A : Option Addr) (n c : Nat) (L : List Int) (hl : L.length = n) (hc : n ≤ c) (W : World) (hr : Kd.C (Kd.int .u8) W A n L) : Calls Tryd.prog 21 #[.slice A n c] W fun e w' => e = .returned (.bool (zeroB L)) ∧ Below W.heap.size W w' := by
  subst hl
  exact tar_zero.calls A c L _ W hr hc rfl
theorem cloneC (A : Option Addr) (n c : Nat) (L : List Int) (hl : L.length = n) (hc : n ≤ c) (hn : n ≤ 140737488355328) (W : World) (hr : Kd.C (Kd.int .u8) W A n L) : Calls Tryd.prog 31 #[.slice A n c] W fun e w' => ∃ A' c', e = .returned (.slice A' n c') ∧ n ≤ c' ∧ Kd.R (Kd.int .u8) 5 w' W.heap.size (fun _ => True) (.slice A' n c') L ∧ Below W.heap.size W w' := by
  subst hl
  refine (bytes_Clone.calls A c L L W hr hc (by unfold bytes_Clone.f; rw [if_pos hn])).mono ?_
  rintro e w' ⟨v, rfl, hR, hB⟩
  obtain ⟨A', c', rfl, h3, h4⟩ := Kd.R_reads hR
  exact ⟨A', c', rfl, h3, hR, hB⟩
theorem nameOf_take (L : List Int) : ∃ k, k ≤ L.length ∧ nameOf L = L.take k := by
  unfold nameOf
  by_cases h : 0 ≤ Lib.indexByte (Lib.bytesOf L) 0
  · rw [if_pos h]
    obtain ⟨o, ho⟩ := Int.eq_ofNat_of_zero_le h
    have := (List.getElem?_eq_some_iff.1 (Lib.indexByte_some ho).1).1
    rw [Lib.bytesOf_length] at this
    exact ⟨_, by omega, rfl⟩
  · rw [if_neg h]; exact ⟨L.length, Nat.le_refl _, (List.take_length).symm⟩
theorem nameOf_F (L : List Int) (n : Nat) (hl : L.length = n) (W : World) (ok : Nat → Prop) (A : Option Addr) (h : Kd.F (Kd.int .u8) W ok A n L) : Kd.F (Kd.int .u8) W ok A (nameOf L).length (nameOf L) := by
  subst hl
  obtain ⟨k, hk, e⟩ := nameOf_take L
  rw [e]
  exact Kd.F_take h hk
/-- bytes.Cut at one byte 0: what stands ahead of it. -/
theorem cutC (A : Option Addr) (n c : Nat) (L : List Int) (hl : L.length = n) (hc : n ≤ c) (hn : n ≤ 100000) (h0n : 0 < n) (g : Nat) (W : World) (hr : Kd.C (Kd.int .u8) W A n L) (hg : W.cell? ⟨g, 0, none⟩ = some (.int .u8 0)) :
    Calls Tryd.prog 30 #[.slice A n c, .slice (some ⟨g, 0, none⟩) 1 1] W fun e w' => ∃ v b, e = .returned (.tuple #[.slice A (nameOf L).length c, v, .bool b]) ∧ Drawn0 W w' := by
  have hrd := Kd.reads_of_C (enc := Value.int .u8) (d := (0 : Int)) (h1 := fun _ => rfl) hr
  have hge := Lib.indexByte_ge (Lib.bytesOf L) 0
  have hlt : Lib.indexByte (Lib.bytesOf L) 0 < n := by
    rcases Int.lt_or_le (Lib.indexByte (Lib.bytesOf L) 0) 0 with h | h
    · omega
    · obtain ⟨o, ho⟩ := Int.eq_ofNat_of_zero_le h
      have := (List.getElem?_eq_some_iff.1 (Lib.indexByte_some ho).1).1
      rw [Lib.bytesOf_length] at this
      omega
  obtain ⟨a, eA, hat⟩ := hrd.2.2 h0n
  subst eA
  have hidx : Calls Tryd.prog 40 #[.slice (some a) n c, .slice (some ⟨g, 0, none⟩) 1 1] W fun e w' => e = .returned (.int .i64 (Lib.indexByte (Lib.bytesOf L) 0)) ∧ ∃ q, w' = W.drewN q :=
    (Tryd.bytes_Index_one_at a n c g 0 1 L 0 W hl hat hg).mono fun e w' h => ⟨h.1, 0, h.2⟩
  refine (Tryd.bytes_Cut_of (some a) (some ⟨g, 0, none⟩) n c 1 1 _ W hc hge (fun h => by omega) (by omega) hidx).mono ?_
  rintro e w' ⟨rfl, hq⟩
  unfold Lib.cutV nameOf
  by_cases h : 0 ≤ Lib.indexByte (Lib.bytesOf L) 0
  · rw [if_pos h, if_pos h]
    have e1 : (L.take (Lib.indexByte (Lib.bytesOf L) 0).toNat).length = (Lib.indexByte (Lib.bytesOf L) 0).toNat := by rw [List.length_take]; omega
    rw [e1]
    exact ⟨_, _, rfl, ⟨hq⟩⟩
  · rw [if_neg h, if_neg h, hl]
    exact ⟨_, _, rfl, ⟨hq⟩⟩
theorem rowOne (X : S44) (W : World) (q : Nat) (A : Option Addr) (n c : Nat) (hn : X.f2.length = n) (hg : W.heap[q]? = some (.cells #[.string X.f0, .bool X.f1, .slice A n c] 44 (0, 0))) (hc : n ≤ c) (hr : Kd.C (Kd.int .u8) W A n X.f2) : Kd.C k44 W (some ⟨q, 0, none⟩) 1 [X] := by
  subst hn
  refine ⟨rfl, by omega, fun _ => ⟨_, rfl, fun j p hj => ?_⟩⟩
  obtain ⟨hj1, hj2⟩ := List.getElem?_eq_some_iff.1 hj
  have hj0 : j = 0 := by simp at hj1; omega
  subst hj0
  have hp : X = p := hj2
  subst hp
  refine ⟨_, rfl, k44_mk W X hc hr, fun i u hu => ?_⟩
  have h := blk_cell hg i
  rw [List.getElem?_toArray, hu] at h
  have e : (⟨q, 0, none⟩ : Addr).add (0 * k44.sz + i) = ⟨q, i, none⟩ := by rw [Nat.zero_mul, Nat.zero_add]; exact add_plain q i
  rw [e]
  exact h
theorem may0_name {X : S44} (h : mayV [X] = 0) : X.f0.size ≤ 99 := by
  unfold mayV at h
  by_cases c : ∃ x ∈ [X], badName x.f0
  · rw [if_pos c] at h; cases h
  · refine Decidable.byContradiction fun hn => c ⟨X, by simp, .inr (.inl (by omega))⟩
theorem oneP_ok {P0_ : Nat → Prop} {w W : World} {X : S44} {R : List Int} {Ac A8 : Option Addr} {m cc n8 c8 : Nat} (hm : X.f2.length = m) (hn : R.length = n8) (hc8 : n8 ≤ c8) (hR : Kd.R (Kd.int .u8) 5 W w.heap.size (fun k => k ≠ w.heap.size) (.slice Ac m cc) X.f2) (hF : Kd.F (Kd.int .u8) w P0_ A8 n8 R) (hB : Below w.heap.size w W) (u0 u1 u2 : Value) :
    oneP P0_ w (X.f0, X.f1, X.f2, R, 0) (.returned (.tuple #[.agg #[.string X.f0, .bool X.f1, .slice Ac m cc], .slice A8 n8 c8, .int .i64 0])) (((W.setCell ⟨w.heap.size, 0, none⟩ u0).setCell ⟨w.heap.size, 1, none⟩ u1).setCell ⟨w.heap.size, 2, none⟩ u2) := by
  subst hn
  have hbW := below_set (j := 2) (v := u2) (below_set (j := 1) (v := u1) (below_set (j := 0) (v := u0) hB (Nat.le_refl _)) (Nat.le_refl _)) (Nat.le_refl _)
  have hbase := Kd.R_base hR
  refine ⟨_, _, rfl, Kd.R_mono (Kd.R_far (p := ⟨w.heap.size, 2, none⟩) (Kd.R_far (p := ⟨w.heap.size, 1, none⟩) (Kd.R_far (p := ⟨w.heap.size, 0, none⟩) hR (fun _ h => h) u0) (fun _ h => h) u1) (fun _ h => h) u2) (fun _ _ => trivial), ?_, hbW⟩
  exact Kd.V_mono (Kd.V_below (Kd.V_bound (Kd.V_mk (e := 5) (base := w.heap.size) hc8 hF)) hbW) (fun k hk => ⟨.inl hk.1, fun he => by have := hbase k he.symm; omega⟩)
def Post9 (w : World) (m : Nat) (nm : ByteArray) (b : Bool) (L : List Int) (s11 : Value) (wx : World) : Prop := ∃ g Ac cc, s11 = .pointer (some ⟨g, 0, none⟩) ∧ wx.heap[g]? = some (.cells #[.string nm, .bool b, .slice Ac m cc] 44 (0, 0)) ∧ w.heap.size < g ∧ m ≤ cc ∧ Kd.R (Kd.int .u8) 5 wx w.heap.size (fun k => k ≠ g ∧ k ≠ w.heap.size) (.slice Ac m cc) L ∧ wx.heap[w.heap.size]? = some (.cells #[.string ⟨#[]⟩, .bool false, .slice none 0 0] 44 (0, 0)) ∧ Below w.heap.size w wx
theorem set3_row {V : World} {g0 : Nat} {nm : ByteArray} {b : Bool} {v : Value} (hq : V.heap[g0]? = some (.cells #[.string ⟨#[]⟩, .bool false, .slice none 0 0] 44 (0, 0))) : (((V.setCell ⟨g0, 0, none⟩ (.string nm)).setCell ⟨g0, 1, none⟩ (.bool b)).setCell ⟨g0, 2, none⟩ v).heap[g0]? = some (.cells #[.string nm, .bool b, v] 44 (0, 0)) := by
  have h := blk_set (blk_set (blk_set hq 0 (.string nm)) 1 (.bool b)) 2 v
  simp only [List.setIfInBounds_toArray, List.set_cons_zero, List.set_cons_succ] at h
  exact h
theorem set3_R {V w : World} {g0 s0 m c : Nat} {L : List Int} {A : Option Addr} (hR : Kd.R (Kd.int .u8) 5 V s0 (fun k => True ∧ s0 ≤ k ∧ k < V.heap.size ∧ ∃ q, q ∈ 5 :: (Kd.int .u8).E ∧ ∃ cells, V.heap[k]? = some (.cells cells q (0, 0))) (.slice A m c) L) (hw : w.heap.size < g0) (hs0 : g0 < s0) (u0 u1 u2 : Value) :
  Kd.R (Kd.int .u8) 5 (((V.setCell ⟨g0, 0, none⟩ u0).setCell ⟨g0, 1, none⟩ u1).setCell ⟨g0, 2, none⟩ u2) w.heap.size (fun k => k ≠ g0 ∧ k ≠ w.heap.size) (.slice A m c) L := by
  have h1 : Kd.R (Kd.int .u8) 5 V w.heap.size (fun k => k ≠ g0 ∧ k ≠ w.heap.size) (.slice A m c) L := Kd.R_lower (Kd.R_mono hR (fun k hk => by have := hk.2.1; omega)) (by omega)
  exact Kd.R_far (p := ⟨g0, 2, none⟩) (Kd.R_far (p := ⟨g0, 1, none⟩) (Kd.R_far (p := ⟨g0, 0, none⟩) h1 (fun _ h => h.1) u0) (fun _ h => h.1) u1) (fun _ h => h.1) u2
theorem set3_far {V : World} {g0 k : Nat} {cs : Array Value} {t : TypeId} (hX : V.heap[k]? = some (.cells cs t (0, 0))) (hne : k ≠ g0) (u0 u1 u2 : Value) : (((V.setCell ⟨g0, 0, none⟩ u0).setCell ⟨g0, 1, none⟩ u1).setCell ⟨g0, 2, none⟩ u2).heap[k]? = some (.cells cs t (0, 0)) :=
  blk_far (p := ⟨g0, 2, none⟩) (blk_far (p := ⟨g0, 1, none⟩) (blk_far (p := ⟨g0, 0, none⟩) hX hne u0) hne u1) hne u2
theorem post9A {w V : World} {g0 s0 m c : Nat} {nm : ByteArray} {b : Bool} {L : List Int} {A : Option Addr} (hw : w.heap.size < g0 ∧ g0 ≤ V.heap.size) (hc : m ≤ c) (hR : Kd.R (Kd.int .u8) 5 V s0 (fun k => True ∧ s0 ≤ k ∧ k < V.heap.size ∧ ∃ q, q ∈ 5 :: (Kd.int .u8).E ∧ ∃ cells, V.heap[k]? = some (.cells cells q (0, 0))) (.slice A m c) L) (hs0 : g0 ≤ s0)
    (hX : V.heap[w.heap.size]? = some (.cells #[.string ⟨#[]⟩, .bool false, .slice none 0 0] 44 (0, 0))) (hB : Below w.heap.size w V) : Post9 w m nm b L (.pointer (some ⟨V.heap.size, 0, none⟩)) (V.alloc (.cells #[.string nm, .bool b, .slice A m c] 44)) :=
  ⟨V.heap.size, A, c, rfl, blk_new V _, Nat.lt_of_lt_of_le hw.1 hw.2, hc, Kd.R_below (Kd.R_lower (Kd.R_mono hR (fun k hk => ⟨Nat.ne_of_lt hk.2.2.1, by have := hk.2.1; omega⟩)) (by omega)) (below_alloc (Below.refl _ _) _), blk_alloc hX _, below_alloc hB _⟩
theorem post9B {w V : World} {g0 s0 m c : Nat} {nm : ByteArray} {b : Bool} {L : List Int} {A : Option Addr} (hw : w.heap.size < g0 ∧ g0 ≤ V.heap.size) (hq : V.heap[g0]? = some (.cells #[.string ⟨#[]⟩, .bool false, .slice none 0 0] 44 (0, 0))) (hc : m ≤ c) (hR : Kd.R (Kd.int .u8) 5 V s0 (fun k => True ∧ s0 ≤ k ∧ k < V.heap.size ∧ ∃ q, q ∈ 5 :: (Kd.int .u8).E ∧ ∃ cells, V.heap[k]? = some (.cells cells q (0, 0))) (.slice A m c) L) (hs0 : g0 < s0)
    (hX : V.heap[w.heap.size]? = some (.cells #[.string ⟨#[]⟩, .bool false, .slice none 0 0] 44 (0, 0))) (hB : Below w.heap.size w V) : Post9 w m nm b L (.pointer (some ⟨g0, 0, none⟩)) (((V.setCell ⟨g0, 0, none⟩ (.string nm)).setCell ⟨g0, 1, none⟩ (.bool b)).setCell ⟨g0, 2, none⟩ (.slice A m c)) :=
  ⟨g0, A, c, rfl, set3_row hq, hw.1, hc, set3_R hR hw.1 hs0 _ _ _, set3_far hX (Nat.ne_of_lt hw.1) _ _ _, below_set (below_set (below_set hB (Nat.le_of_lt hw.1)) (Nat.le_of_lt hw.1)) (Nat.le_of_lt hw.1)⟩
set_option maxHeartbeats 8000000 in
set_option maxRecDepth 100000 in
theorem one_walk (P0_ : Nat → Prop) (A0 : Option Addr) (n0 c0 : Nat) (l0 : List Int) (w : World) (hln : l0.length = n0) (hc : n0 ≤ c0) (h512 : 512 ≤ n0) (hbig : n0 ≤ 1000000000000) (hF : Kd.F (Kd.int .u8) w P0_ A0 n0 l0) :
    Calls Tryd.prog 22 #[.slice A0 n0 c0] w fun e w' => oneP P0_ w (oneV l0) e w' := by
  obtain ⟨S1, F1, L1⟩ := cutT A0 c0 l0 512 n0 hln h512 hc
  obtain ⟨A2, S2, F2, L2⟩ := cutM A0 c0 (l0.take 512) 148 156 512 8 L1 (by omega) (by omega) (by omega) rfl
  obtain ⟨A3, S3, F3, L3⟩ := cutM A0 c0 (l0.take 512) 124 135 512 11 L1 (by omega) (by omega) (by omega) rfl
  obtain ⟨nb, hnb⟩ : ∃ nb, nb = n0 - 512 := ⟨_, rfl⟩
  obtain ⟨A4, S4, F4, L4⟩ := cutD A0 c0 l0 512 n0 nb hln h512 hc hnb
  have HNB := Aside0.mk hnb
  clear hnb
  obtain ⟨S5, F5, L5⟩ := cutT A0 c0 (l0.take 512) 100 512 L1 (by omega) (by omega)
  have hH := F1 w P0_ hF
  have HH := Aside0.mk hH
  have hB := F4 w P0_ hF
  have HBF := Aside0.mk hB
  have hfld := F2 w P0_ hH
  have HFLD := Aside0.mk hfld
  have hnum := F3 w P0_ hH
  have HNUM := Aside0.mk hnum
  have hnam := F5 w P0_ hH
  have HNAM := Aside0.mk hnam
  clear hH hB hfld hnum hnam F1 F2 F3 F4 F5
  have hV : Aside0 (oneV l0 = oneV l0) := ⟨rfl⟩
  generalize hvr : oneV l0 = r at hV ⊢
  have HVR := Aside0.mk hvr
  clear hvr hV
  have HL := Aside0.mk (show l0.length = n0 from hln)
  have HL1 := Aside0.mk L1
  have HL2 := Aside0.mk L2
  have HL3 := Aside0.mk L3
  have HL4 := Aside0.mk L4
  have HL5 := Aside0.mk L5
  clear hln L1 L2 L3 L4 L5
  generalize hHd : l0.take 512 = H at *
  have HHd := Aside0.mk hHd
  generalize hBd : l0.drop 512 = B at *
  have HBd := Aside0.mk hBd
  clear hHd hBd
  simp only [Int.cast_ofNat_Int] at S1 S2 S3 S4 S5
  have HSUM := Aside0.mk (fun W hC => sumC H HL1.out A0 c0 (by omega) W hC)
  have HOCT := Aside0.mk (fun W => octC (sumV H) 6 (by omega) W)
  have BX0 := Aside0.mk (blk_new w (.cells #[.string ⟨#[]⟩, .bool false, .slice none 0 0] 44))
  have BE0 := Aside0.mk (below_alloc (Below.refl w.heap.size w) (.cells #[.string ⟨#[]⟩, .bool false, .slice none 0 0] 44))
  go_enter Tryd.func22, Tryd.ntmps22
  go_upto_region 2 with fail
  generalize (World.alloc w (.cells #[.string ⟨#[]⟩, .bool false, .slice none 0 0] 44)) = W0 at BX0 BE0 ⊢
  have HZ0 := Aside0.mk (show w.heap.size + 1 ≤ W0.heap.size from blk_lt BX0.out)
  have hrd : ∀ W, Below w.heap.size w W → ∀ A n L, Kd.F (Kd.int .u8) w P0_ A n L → Kd.C (Kd.int .u8) W A n L := fun W hB A n L hF => Kd.C_below (Kd.F_now hF) hB
  have HRD := Aside0.mk hrd
  clear hrd
  go_cut [22] (fun s22 wx => s22 = .bool (!sumOk H) ∧ Aside0 (wx.heap[w.heap.size]? = some (.cells #[.string ⟨#[]⟩, .bool false, .slice none 0 0] 44)) ∧ Aside0 (Below w.heap.size w wx))
  case first =>
    go_region_law (first
      | (refine goes_ (f := 15) (N := some 17) Tryd.func15 (by kernel_rfl) rfl #[.slice A0 512 c0] rfl rfl rfl ?harg ?_; (case harg => (simp only [List.map_toArray, List.map_cons, List.map_nil]; rfl)); refine (HSUM.out _ (HRD.out _ ?hC _ _ _ HH.out)).mono ?_; (case hC => repeat (first | exact BE0.out | apply below_alloc | apply pw_below_drewN | apply below_drew)); rintro e V12 ⟨rfl, ⟨⟨q12, rfl⟩⟩⟩; refine ⟨_, rfl, ?_⟩)
      | (refine goes_ (f := 26) (N := some 18) Tryd.func26 (by kernel_rfl) rfl #[.int .i64 (sumV H), .int .i64 6] rfl rfl rfl ?harg ?_; (case harg => (simp only [List.map_toArray, List.map_cons, List.map_nil]; rfl)); refine (HOCT.out _).mono ?_; rintro e V13 ⟨A13, c13, rfl, hR13, hB13⟩; refine ⟨_, rfl, ?_⟩; have HR13 := Aside0.mk hR13; have HB13 := Aside0.mk hB13; have BX13 := Aside0.mk ((hB13.block w.heap.size (by have hz_ := HZ0.out; simp; omega)).trans (by first | exact BX0.out | exact blk_alloc (w := W0) BX0.out _)); have BE13 := Aside0.mk (Below.trans (by repeat (first | exact BE0.out | apply below_alloc | apply pw_below_drewN | apply below_drew)) (hB13.mono (by have hz_ := HZ0.out; simp; omega)) : Below w.heap.size w V13); clear hR13 hB13)
      | (refine step_app32 rfl (.tmp 18) (.tmp 19) rfl A13 c13 (w.heap.size + 1) _ (octV (sumV H) 6) rfl rfl ?hown (by rw [octV_len]; omega) ?hlit ?hbase ?_; (case hown => first | exact own_weaken (Kd.own_of_R HR13.out) (by have hz_ := HZ0.out; simp; omega) | exact (own_weaken (Kd.own_of_R HR13.out) (by have hz_ := HZ0.out; simp; omega)).alloc _); (case hlit => first | exact blk_new _ _ | exact (HB13.out.block _ (by simp)).trans (blk_new _ _) | exact (HB13.out.block _ (by simp)).trans (blk_drewN (blk_new _ _) _)); (case hbase => have hs_ := HB13.out.size; have hz_ := HZ0.out; simp at hs_ ⊢; omega); rintro A14 c14 W14 ⟨hC14, hl14⟩ hB14; have HC14 := Aside0.mk hC14; have HC14L := Aside0.mk hl14; clear hl14; have BE14 := Aside0.mk (show Below w.heap.size w W14 by first | exact BE13.out.trans (hB14.mono (by omega)) | exact (below_alloc BE13.out _).trans (hB14.mono (by omega))); have BX14 := Aside0.mk ((hB14.block w.heap.size (by omega)).trans (by first | exact BX13.out | exact blk_alloc BX13.out _)); clear hC14 hB14)
      | (refine goes_ (f := 28) (N := some 21) Tryd.func28 (by kernel_rfl) rfl #[.slice A2 8 (c0 - 148), .slice A14 (octV (sumV H) 6 ++ [32]).length c14] rfl rfl rfl ?harg ?_; (case harg => (simp only [List.map_toArray, List.map_cons, List.map_nil]; rfl)); refine (eqC A2 8 (c0 - 148) (sumField H) A14 _ c14 (octV (sumV H) 6 ++ [32]) HL2.out rfl _ ?hq (by omega) HC14.out ?hle).mono ?_; (case hq => exact HRD.out _ BE14.out _ _ _ HFLD.out); (case hle => exact HC14L.out); rintro e V15 ⟨rfl, ⟨⟨q15, rfl⟩⟩⟩; refine ⟨_, rfl, ?_⟩; have BE15 := Aside0.mk (pw_below_drewN BE14.out q15); have BX15 := Aside0.mk (blk_drewN BX14.out q15)))
    all_goals
      go_wp2_with fail
      go_meet
      exact ⟨rfl, BX15, BE15⟩
  case rest =>
    obtain ⟨rfl, BX15, BE15⟩ := hcut
    clear BX0 BE0 HZ0 HSUM HOCT HFLD
    generalize hs1 : sumOk H = b1
    have HS1 := Aside0.mk hs1
    clear hs1
    have hsc : ∀ W : World, W.heap[w.heap.size]? = some (.cells #[.string ⟨#[]⟩, .bool false, .slice none 0 0] 44) → (W.cell? ⟨w.heap.size, 0, none⟩ = some (.string ⟨#[]⟩) ∧ W.cell? ⟨w.heap.size, 1, none⟩ = some (.bool false) ∧ W.cell? ⟨w.heap.size, 2, none⟩ = some (.slice none 0 0)) ∧ W.frozen? ⟨w.heap.size, 0, none⟩ = false ∧ W.frozen? ⟨w.heap.size, 1, none⟩ = false ∧ W.frozen? ⟨w.heap.size, 2, none⟩ = false := fun W h => ⟨⟨blk_cell h 0, blk_cell h 1, blk_cell h 2⟩, blk_frozen h 0, blk_frozen h 1, blk_frozen h 2⟩
    have HSC := Aside0.mk hsc
    clear hsc
    cases b1
    · have hr : r = (⟨#[]⟩, false, [], [], 14) := by rw [← HVR.out]; unfold oneV; rw [HHd.out, if_pos HS1.out]
      subst hr
      obtain ⟨⟨y0, y1, y2⟩, z0, z1, z2⟩ := HSC.out _ BX15.out
      go_wp2_with fail
      exact bodyPost_ret (v := .tuple #[.agg #[.string ⟨#[]⟩, .bool false, .slice none 0 0], .slice none 0 0, .int .i64 14]) (by simp [results, Tryd.results22, y0, y1, y2, go_sem]) rfl (oneP_bad 14 _ _ _ BE15.out)
    · have HNC := Aside0.mk (fun W hC => numC _ 11 HL3.out (by omega) A3 (c0 - 124) (by omega) W hC)
      generalize hq : numV (List.drop 124 (List.take 135 H)) = q at HNC
      have HQ := Aside0.mk hq
      clear hq
      obtain ⟨qn, qb⟩ := q
      go_wp2_with fail
      refine (HNC.out _ (HRD.out _ BE15.out _ _ _ HNUM.out)).mono ?_
      rintro e W16 ⟨rfl, ⟨⟨q16, rfl⟩⟩⟩
      replace BX15 := Aside0.mk (blk_drewN BX15.out q16)
      replace BE15 := Aside0.mk (pw_below_drewN BE15.out q16)
      generalize (World.drewN wc q16) = W16 at *
      cases qb
      · have hr : r = badR := by rw [← HVR.out]; unfold oneV; rw [HHd.out, if_neg (by rw [HS1.out]; decide), HQ.out, if_pos rfl]
        subst hr
        obtain ⟨⟨y0, y1, y2⟩, z0, z1, z2⟩ := HSC.out _ BX15.out
        go_wp2_with fail
        exact bodyPost_ret (v := .tuple #[.agg #[.string ⟨#[]⟩, .bool false, .slice none 0 0], .slice none 0 0, .int .i64 4]) (by simp [results, Tryd.results22, y0, y1, y2, go_sem]) rfl (oneP_bad 4 _ _ _ BE15.out)
      · have hqb := numL_ok _ 0 qn HQ.out (by omega) (by omega)
        obtain ⟨m, rfl⟩ := Int.eq_ofNat_of_zero_le hqb.1
        have hm : m ≤ 524295 := by omega
        have hbm : blk m ≤ 1025 := by unfold blk; omega
        have hbm2 : m ≤ blk m * 512 := blk_le m
        clear hqb
        have hr0 := HVR.out
        unfold oneV at hr0
        rw [HHd.out, HBd.out, if_neg (by rw [HS1.out]; decide), HQ.out, if_neg Bool.noConfusion, HL4.out] at hr0
        simp only [Int.toNat_natCast] at hr0
        by_cases c2 : nb < blk m * 512
        · rw [if_pos c2] at hr0
          subst hr0
          have hcmp : decide ((nb : Int) < (blk m : Int) * 512) = true := decide_eq_true (by omega)
          obtain ⟨⟨y0, y1, y2⟩, z0, z1, z2⟩ := HSC.out _ BX15.out
          clear c2 hbm2
          go_wp2_with (go_at_call 20; refine (blkC m (by omega) _).mono ?_; rintro e w' ⟨rfl, ⟨⟨q17, rfl⟩⟩⟩)
          exact bodyPost_ret (v := .tuple #[.agg #[.string ⟨#[]⟩, .bool false, .slice none 0 0], .slice none 0 0, .int .i64 4]) (by simp [results, Tryd.results22, y0, y1, y2, go_sem]) rfl (oneP_bad 4 _ _ _ (pw_below_drewN BE15.out _))
        · rw [if_neg c2] at hr0
          have HR0 := Aside0.mk hr0
          clear hr0
          have hcmp : decide ((nb : Int) < (blk m : Int) * 512) = false := decide_eq_false (by omega)
          go_wp2_with (go_at_call 20; refine (blkC m (by omega) _).mono ?_; rintro e w' ⟨rfl, ⟨⟨q17, rfl⟩⟩⟩)
          have BX17 := Aside0.mk (blk_alloc (blk_drewN BX15.out q17) (.cells #[.int .u8 0] 5))
          have BE17 := Aside0.mk (below_alloc (pw_below_drewN BE15.out q17) (.cells #[.int .u8 0] 5))
          refine (cutC A0 100 c0 (List.take 100 H) HL5.out (by omega) (by omega) (by omega) W16.heap.size _ (HRD.out _ BE17.out _ _ _ HNAM.out) ?hg).mono ?_
          case hg => exact blk_cell (blk_new (World.drewN W16 q17) (.cells #[.int .u8 0] 5)) 0
          rintro e W18 ⟨v18, b18, rfl, ⟨⟨q18, rfl⟩⟩⟩
          have BX18 := Aside0.mk (blk_drewN BX17.out q18)
          have BE18 := Aside0.mk (pw_below_drewN BE17.out q18)
          generalize (World.drewN (World.alloc _ _) q18) = W18 at BX18 BE18 ⊢
          clear BX17 BE17 BX15 BE15
          have HNF := Aside0.mk (nameOf_F _ 100 HL5.out w P0_ A0 HNAM.out)
          generalize hnm : nameOf (List.take 100 H) = nm at HNF
          have HNM := Aside0.mk hnm
          clear hnm
          obtain ⟨ad0, eA0, _⟩ := Kd.at_int (HRD.out _ BE18.out _ _ _ HH.out) 156 (by omega) (by omega)
          subst eA0
          have hld : ∀ W, Below w.heap.size w W → W.cell? ⟨ad0.block, ad0.off + 156, none⟩ = some (.int .u8 (rd H 156)) := fun W hB => by
            obtain ⟨ad, e, h⟩ := Kd.at_int (HRD.out _ hB _ _ _ HH.out) 156 (by omega) (by omega)
            cases e
            have ea : ad0.add ((156 : Int).toNat) = ⟨ad0.block, ad0.off + 156, none⟩ := by unfold Addr.add; rfl
            rw [← ea]
            exact h
          have HLD := Aside0.mk hld
          have hcv : ∀ W, Below w.heap.size w W → (convert 25 9 (.slice (some ad0) nm.length c0)).run Tryd.prog W = .ok (.string (strOfNums nm)) W := fun W hB => Kd.C_string (P := Tryd.prog) Tryd.underlying25 Tryd.underlying5 Tryd.underlying9 (HRD.out _ hB _ _ _ HNF.out)
          have HCV := Aside0.mk hcv
          clear hld hcv
          obtain ⟨S6, F6, L6⟩ := cutT A4 (c0 - 512) B m nb HL4.out (by omega) (by have := HNB.out; omega)
          have hf6 := F6 w P0_ HBF.out
          have HF6 := Aside0.mk hf6
          have HL6 := Aside0.mk L6
          clear F6 L6 hf6
          have HCL := Aside0.mk (fun W hr => cloneC A4 m (c0 - 512) (List.take m B) HL6.out (by have := HNB.out; omega) (by omega) W hr)
          have hld0 := HLD.out _ BE18.out
          have hld1 := fun o => HLD.out _ (below_alloc BE18.out o)
          have hcv0 := HCV.out _ (below_drew BE18.out)
          have hcv1 := fun o => HCV.out _ (below_drew (below_alloc BE18.out o))
          go_upto_region 9 with fail
          go_cut [11] (fun s11 wx => Post9 w m (strOfNums nm) (rd H 156 == 53) (List.take m B) s11 wx)
          case first =>
            go_region_held3 (fun w' => w'.cell? ⟨ad0.block, ad0.off + 156, none⟩ = some (.int .u8 (rd H 156)) ∧ (convert 25 9 (.slice (some ad0) nm.length c0)).run Tryd.prog w' = .ok (.string (strOfNums nm)) w') (first | exact ⟨hld0, hcv0⟩ | exact ⟨hld2, hcv2⟩ | exact ⟨HLD.out _ (by repeat (first | exact BE20.out | exact BE18.out | apply below_alloc | apply pw_below_drewN | apply below_drew | refine below_set ?_ (Nat.le_of_lt HW20.out.1))), HCV.out _ (by repeat (first | exact BE20.out | exact BE18.out | apply below_alloc | apply pw_below_drewN | apply below_drew | refine below_set ?_ (Nat.le_of_lt HW20.out.1)))⟩) (first
              | (go_at_call 31; refine (HCL.out _ (HRD.out _ ?hb _ _ _ HF6.out)).mono ?_; (case hb => repeat (first | exact BE18.out | apply below_alloc | apply pw_below_drewN | apply below_drew)); rintro e V20 ⟨A20, c20, rfl, hc20, hR20, hB20⟩; have HR20 := Aside0.mk (Kd.R_bound hR20); have hz3_ := blk_lt BX18.out; have hz4_ := hB20.size; have HW20 := Aside0.mk (show w.heap.size < W18.heap.size ∧ W18.heap.size ≤ V20.heap.size by (simp at hz4_); exact ⟨hz3_, by omega⟩); clear hz3_ hz4_; have BX20 := Aside0.mk ((hB20.block w.heap.size (by have hz2_ := HW20.out; simp; omega)).trans (by first | exact BX18.out | exact blk_alloc (w := W18) BX18.out _)); have HC20 := Aside0.mk hc20; have BE20 := Aside0.mk (Below.trans (by repeat (first | exact BE18.out | apply below_alloc | apply pw_below_drewN | apply below_drew)) (hB20.mono (by have hz_ := BE18.out.size; have hz2_ := blk_lt BX18.out; simp; omega)) : Below w.heap.size w V20); have hld2 := HLD.out _ BE20.out; have hld3 := fun o => HLD.out _ (below_alloc BE20.out o); have hcv2 := HCV.out _ BE20.out; have hcv3 := fun o => HCV.out _ (below_alloc BE20.out o); (try (have hq20 : V20.heap[W18.heap.size]? = some (.cells #[.string ⟨#[]⟩, .bool false, .slice none 0 0] 44 (0, 0)) := (hB20.block _ (by simp)).trans (blk_new _ _); have HQ20 := Aside0.mk hq20; have u0_ := blk_cell hq20 0; have u1_ := blk_cell hq20 1; have u2_ := blk_cell hq20 2; have f0_ := blk_frozen hq20 0; have f1_ := blk_frozen hq20 1; have f2_ := blk_frozen hq20 2; clear hq20; simp only [List.getElem?_toArray, List.getElem?_cons_zero, List.getElem?_cons_succ] at u0_ u1_ u2_)); clear hB20 hR20 hc20))
            all_goals
              go_wp2_with fail
              go_meet
              first
                | (have hq_ := HQ20; exact post9B HW20.out HQ20.out HC20.out HR20.out (by simp) BX20.out BE20.out)
                | exact post9A HW20.out HC20.out HR20.out (by simp) BX20.out BE20.out
          case rest =>
            obtain ⟨g, Ac, cc, rfl, hg, hwg, hcc, hRc, hX, hBE⟩ := hcut
            have HG := Aside0.mk hg
            have HWG := Aside0.mk hwg
            have HCC := Aside0.mk hcc
            have HRC := Aside0.mk hRc
            have HX := Aside0.mk hX
            have HBE := Aside0.mk hBE
            clear hwg hcc hRc hX hBE HLD HCV hld0 hld1 hcv0 hcv1 HCL BX18 BE18
            have yg0 := blk_cell hg 0
            have yg1 := blk_cell hg 1
            have yg2 := blk_cell hg 2
            simp only [List.getElem?_toArray, List.getElem?_cons_zero, List.getElem?_cons_succ] at yg0 yg1 yg2
            clear hg
            obtain ⟨X, hX0⟩ : ∃ X : S44, X = ⟨strOfNums nm, rd H 156 == 53, List.take m B⟩ := ⟨_, rfl⟩
            have hof : oneFile H B m = X := by unfold oneFile; rw [HNM.out, hX0]
            have hr0 := HR0.out
            rw [hof] at hr0
            have HR1 := Aside0.mk hr0
            clear hr0 hof HR0
            have e0 : strOfNums nm = X.f0 := by rw [hX0]
            have e1 : (rd H 156 == 53) = X.f1 := by rw [hX0]
            have e2 : List.take m B = X.f2 := by rw [hX0]
            have HLX := Aside0.mk (show X.f2.length = m by rw [← e2]; exact HL6.out)
            rw [e0] at yg0
            rw [e1] at yg1
            have HG1 := Aside0.mk (show wc.heap[g]? = some (.cells #[.string X.f0, .bool X.f1, .slice Ac m cc] 44 (0, 0)) by rw [← e0, ← e1]; exact HG.out)
            have HRC1 := Aside0.mk (show Kd.R (Kd.int .u8) 5 wc w.heap.size (fun k => k ≠ g ∧ k ≠ w.heap.size) (.slice Ac m cc) X.f2 by rw [← e2]; exact HRC.out)
            clear e0 e1 e2 hX0 HG HRC
            go_wp2_with fail
            refine (mayC X _ _ (rowOne X _ wc.heap.size Ac m cc HLX.out (blk_new wc _) HCC.out ?hcx)).mono ?_
            case hcx => exact Kd.C_below (by have := (Kd.R_reads' HRC1.out).2.2; rw [HLX.out] at this; exact this) (below_alloc (Below.refl _ _) _)
            rintro e W21 ⟨rfl, hB21⟩
            have hB21' := below_step (below_alloc (Below.refl wc.heap.size wc) (.cells #[.string X.f0, .bool X.f1, .slice Ac m cc] 44)) hB21
            have HG2 := Aside0.mk (blk_below HG1.out hB21')
            have HRC2 := Aside0.mk (Kd.R_below HRC1.out hB21')
            have HX2 := Aside0.mk (blk_below HX.out hB21')
            have HBE2 := Aside0.mk (HBE.out.trans (hB21'.mono HBE.out.size))
            clear hB21 hB21' HG1 HRC1 HX HBE yg0 yg1 yg2
            have yg := blk_cell HG2.out
            have yg0 := yg 0
            have yg1 := yg 1
            have yg2 := yg 2
            clear yg
            simp only [List.getElem?_toArray, List.getElem?_cons_zero, List.getElem?_cons_succ] at yg0 yg1 yg2
            obtain ⟨⟨y0, y1, y2⟩, z0, z1, z2⟩ := HSC.out _ HX2.out
            by_cases c3 : mayV [X] ≠ 0
            · have hr : r = badR := by rw [← HR1.out, if_pos c3]
              subst hr
              have hm0 : (mayV [X] != 0) = true := bne_iff_ne.2 c3
              have hm1 : (mayV [X] == 0) = false := beq_eq_false_iff_ne.2 c3
              generalize mayV [X] = em at hm0 hm1 ⊢
              clear c3 HR1
              go_wp2_with fail
              exact bodyPost_ret (v := .tuple #[.agg #[.string ⟨#[]⟩, .bool false, .slice none 0 0], .slice none 0 0, .int .i64 4]) (by simp [results, Tryd.results22, y0, y1, y2, go_sem]) rfl (oneP_bad 4 _ _ _ HBE2.out)
            · have hm0 : mayV [X] = 0 := Decidable.byContradiction c3
              have hr0 := HR1.out
              rw [if_neg c3] at hr0
              have HR2 := Aside0.mk hr0
              have HNX := Aside0.mk (may0_name hm0)
              clear c3 hr0 HR1
              rw [hm0]
              clear hm0
              have HHC := Aside0.mk (fun W hr => headC X Ac m cc HLX.out HCC.out W hr HNX.out (by omega))
              have HHL := Aside0.mk (headL_len X.f0 X.f1 (X.f2.length : Int) HNX.out)
              generalize hhl : headL X.f0 X.f1 (X.f2.length : Int) = HLs at HHC HR2 HHL
              have HHLE := Aside0.mk hhl
              clear hhl
              go_wp2_with fail
              refine (HHC.out _ ?hcx2).mono ?_
              case hcx2 => exact (by have := (Kd.R_reads' HRC2.out).2.2; rw [HLX.out] at this; exact this)
              rintro e W22 ⟨A22, c22, rfl, hc22, hC22, hB22⟩
              have HG3 := Aside0.mk (blk_below HG2.out hB22)
              have HRC3 := Aside0.mk (Kd.R_below HRC2.out hB22)
              have HX3 := Aside0.mk (blk_below HX2.out hB22)
              have HBE3 := Aside0.mk (below_step HBE2.out hB22)
              have HC22 := Aside0.mk hC22
              have HCL22 := Aside0.mk hc22
              clear hB22 hC22 hc22 HG2 HRC2 HX2 HBE2 yg0 yg1 yg2 y0 y1 y2 z0 z1 z2 HHC
              go_wp2_with fail
              refine (eqC A22 512 c22 HLs (some ad0) 512 c0 H HHL.out HL1.out _ HC22.out HCL22.out (HRD.out _ HBE3.out _ _ _ HH.out) (by omega)).mono ?_
              rintro e W23 ⟨rfl, ⟨⟨q23, rfl⟩⟩⟩
              generalize hes : ((strOfNums HLs).toList == (strOfNums H).toList) = es at HR2 ⊢
              have HES := Aside0.mk hes
              clear hes
              obtain ⟨⟨y0, y1, y2⟩, z0, z1, z2⟩ := HSC.out _ HX3.out
              cases es
              · have hr : r = badR := by rw [← HR2.out, if_pos rfl]
                subst hr
                clear HR2
                go_wp2_with fail
                exact bodyPost_ret (v := .tuple #[.agg #[.string ⟨#[]⟩, .bool false, .slice none 0 0], .slice none 0 0, .int .i64 4]) (by simp [results, Tryd.results22, y0, y1, y2, go_sem]) rfl (oneP_bad 4 _ _ _ (pw_below_drewN HBE3.out _))
              · have hr0 := HR2.out
                rw [if_neg (by decide)] at hr0
                have HR3 := Aside0.mk hr0
                clear HR2 hr0
                obtain ⟨A7, S7, F7, L7⟩ := cutM A4 (c0 - 512) B m (blk m * 512) nb (blk m * 512 - m) HL4.out hbm2 (by omega) (by have := HNB.out; omega) rfl
                have hf7 := F7 w P0_ HBF.out
                have HF7 := Aside0.mk hf7
                have HL7 := Aside0.mk L7
                clear F7 L7 hf7
                obtain ⟨A8, S8, F8, L8⟩ := cutD A4 (c0 - 512) B (blk m * 512) nb (nb - blk m * 512) HL4.out (by omega) (by have := HNB.out; omega) rfl
                have hf8 := F8 w P0_ HBF.out
                have HF8 := Aside0.mk hf8
                have HL8 := Aside0.mk L8
                clear F8 L8 hf8
                simp only [Int.natCast_mul, Int.cast_ofNat_Int] at S7 S8
                have HBK := Aside0.mk (fun W => blkC m (by omega) W)
                have HZE := Aside0.mk (fun W hr => zeroC A7 (blk m * 512 - m) (c0 - 512 - m) _ HL7.out (by have := HNB.out; omega) W hr)
                generalize hzs : zeroB (List.drop m (List.take (blk m * 512) B)) = zs at HZE HR3
                have HZS := Aside0.mk hzs
                clear hzs hbm2
                go_wp2_with fail
                refine (HBK.out _).mono ?_
                rintro e W24 ⟨rfl, ⟨⟨q24, rfl⟩⟩⟩
                go_wp2_with fail
                refine (HZE.out _ (HRD.out _ ?hb _ _ _ HF7.out)).mono ?_
                case hb => repeat (first | exact HBE3.out | apply pw_below_drewN | apply below_drew)
                rintro e W25 ⟨rfl, hB25⟩
                have HG4 := Aside0.mk (blk_below (show (World.drewN _ _).heap[g]? = _ from HG3.out) hB25)
                have HRC4 := Aside0.mk (Kd.R_below (show Kd.R (Kd.int .u8) 5 (World.drewN _ _) w.heap.size (fun k => k ≠ g ∧ k ≠ w.heap.size) (.slice Ac m cc) X.f2 from HRC3.out) hB25)
                have HX4 := Aside0.mk (blk_below (show (World.drewN _ _).heap[w.heap.size]? = _ from HX3.out) hB25)
                have HBE4 := Aside0.mk (below_step (show Below w.heap.size w (World.drewN _ _) from ⟨HBE3.out.os, HBE3.out.tape, HBE3.out.output, HBE3.out.size, HBE3.out.block⟩) hB25)
                clear hB25 HG3 HRC3 HX3 HBE3 y0 y1 y2 z0 z1 z2 HZE
                obtain ⟨⟨y0, y1, y2⟩, z0, z1, z2⟩ := HSC.out _ HX4.out
                cases zs
                · have hr : r = badR := by rw [← HR3.out, if_pos rfl]
                  subst hr
                  clear HR3
                  go_wp2_with fail
                  exact bodyPost_ret (v := .tuple #[.agg #[.string ⟨#[]⟩, .bool false, .slice none 0 0], .slice none 0 0, .int .i64 4]) (by simp [results, Tryd.results22, y0, y1, y2, go_sem]) rfl (oneP_bad 4 _ _ _ HBE4.out)
                · have hr : r = (X.f0, X.f1, X.f2, List.drop (blk m * 512) B, 0) := by rw [← HR3.out, if_neg (by decide)]
                  subst hr
                  clear HR3
                  have yg := blk_cell HG4.out
                  have yg0 := yg 0
                  have yg1 := yg 1
                  have yg2 := yg 2
                  clear yg
                  simp only [List.getElem?_toArray, List.getElem?_cons_zero, List.getElem?_cons_succ] at yg0 yg1 yg2
                  go_wp2_with fail
                  have hwr : IntKind.i64.wrap ((blk m : Int) * 512) = (blk m : Int) * 512 := by rw [IntKind.wrap_i64]; omega
                  go_region_law (first
                    | (refine goes_ (f := 20) (N := some 87) Tryd.func20 (by kernel_rfl) rfl #[.int .i64 (m : Int)] rfl rfl rfl ?harg ?_; (case harg => (simp only [List.map_toArray, List.map_cons, List.map_nil]; rfl)); refine (HBK.out _).mono ?_; rintro e V26 ⟨rfl, ⟨⟨q26, rfl⟩⟩⟩; refine ⟨_, rfl, ?_⟩))
                  all_goals (try dsimp only [Act.put])
                  all_goals go_wp2_with fail
                  all_goals (rename_i o4 d4 h4 o3 d3 h3; obtain rfl : 4 = d4 := Option.some.inj h4; obtain rfl : 3 = d3 := Option.some.inj h3)
                  all_goals exact bodyPost_ret (v := .tuple #[.agg #[.string X.f0, .bool X.f1, .slice Ac m cc], .slice A8 (nb - blk m * 512) (c0 - 512 - blk m * 512), .int .i64 0]) (by simp [results, Tryd.results22, y0, y1, y2, go_sem]) rfl (oneP_ok HLX.out HL8.out (by have := HNB.out; omega) (Kd.R_mono (show Kd.R (Kd.int .u8) 5 (World.drewN _ _) w.heap.size (fun k => k ≠ g ∧ k ≠ w.heap.size) (.slice Ac m cc) X.f2 from HRC4.out) (fun k hk => hk.2)) HF8.out ⟨HBE4.out.os, HBE4.out.tape, HBE4.out.output, HBE4.out.size, HBE4.out.block⟩ _ _ _)
def tar_one.f (l0 : List Int) : Option (ByteArray × Bool × List Int × List Int × Int) := if (l0.length : Int) < 512 then none else (if (l0.length : Int) ≤ 1000000000000 then some (oneV l0) else none)
theorem tar_one.calls (P0_ : Nat → Prop) (A0 : Option Addr) (c0 : Nat) (l0 : List Int) (r1 : ByteArray) (r2 : Bool) (r3 r4 : List Int) (r5 : Int) (w : World) (hs0 : Kd.V (Kd.int .u8) 5 w w.heap.size (fun k_ => P0_ k_) (.slice A0 l0.length c0) l0) (h : tar_one.f l0 = some (r1, r2, r3, r4, r5)) :
    Calls Tryd.prog 22 #[.slice A0 l0.length c0] w fun e w' => ∃ v0_ v1_ : Value, e = .returned (.tuple #[.agg #[.string r1, .bool r2, v0_], v1_, .int .i64 r5]) ∧ Kd.R (Kd.int .u8) 5 w' w.heap.size (fun _ => True) v0_ r3 ∧ Kd.V (Kd.int .u8) 5 w' w.heap.size (fun k_ => (P0_ k_ ∨ w.heap.size ≤ k_) ∧ some k_ ≠ v0_.ownBlock) v1_ r4 ∧ Below w.heap.size w w' := by
  unfold tar_one.f at h
  by_cases h1 : (l0.length : Int) < 512
  · rw [if_pos h1] at h; cases h
  · rw [if_neg h1] at h
    by_cases h2 : (l0.length : Int) ≤ 1000000000000
    · rw [if_pos h2] at h
      have hr := Option.some.inj h
      refine (one_walk P0_ A0 l0.length c0 l0 w rfl (Kd.V_at hs0).2.1 (by omega) (by omega) (Kd.V_F hs0)).mono ?_
      rw [hr]
      exact fun e w' hp => hp
    · rw [if_neg h2] at h; cases h
end Go.Proofs.YtlnogacjebbepaaDoor.G
