/- awake, walked; prog.Text as the printed texts call it, in a world whose tables are laid. -/
import Derived.Test.YtckmgoeflecpgaaDoorGText
import Derived.Test.YtckmgoeflecpgaaDoorGReadC
import Derived.Test.YtckmgoeflecpgaaDoorProgE
namespace Go.Proofs.YtckmgoeflecpgaaDoor.G
set_option linter.unusedVariables false
set_option linter.unusedSimpArgs false
open Go.RowKit Go.Proofs.YtckmgoeflecpgaaDoor.L Go.Proofs.YtckmgoeflecpgaaDoor.I Go.Proofs.YtckmgoeflecpgaaDoor.P Go.Proofs.YtckmgoeflecpgaaDoorW.PrintWords Go.Proofs.YtckmgoeflecpgaaDoorW.PrintLast Go.Proofs.YtckmgoeflecpgaaDoorW.PrintMore
/-- Decimal digits, with a bound on how many. -/
def ddF : Nat → Nat → List UInt8
  | 0, _ => []
  | k + 1, u => if u < 10 then [UInt8.ofNat (48 + u)] else ddF k (u / 10) ++ [UInt8.ofNat (48 + u % 10)]
theorem dd_eq : ∀ (k u : Nat), u < 10 ^ k → 0 < k → Lib.decDigits u = ddF k u
  | 0, u, h, h0 => absurd h0 (by omega)
  | k + 1, u, h, h0 => by
    rw [Lib.decDigits, ddF]
    by_cases h1 : u < 10
    · rw [dif_pos h1, if_pos h1]
    · rw [dif_neg h1, if_neg h1, dd_eq k (u / 10) (by rw [Nat.pow_succ] at h; omega) (by rcases Nat.eq_zero_or_pos k with h2 | h2; · subst h2; simp at h; omega
                                                                                         · exact h2)]
def itoaF (n : Int) : ByteArray := ⟨(ddF 9 n.toNat).toArray⟩
theorem itoaF_eq (n : Int) (h0 : 0 ≤ n) (h1 : n < 1000000000) : itoaB n = itoaF n := by
  unfold itoaB itoaF Lib.itoa
  rw [if_neg (by omega), dd_eq 9 n.toNat (by omega) (by omega)]
def lineF (op x : Int) : ByteArray := if mayI op x = true then (if (kindOf op).2.2 ≤ 1 then nameOf op else nameOf op ++ ⟨#[32]⟩ ++ itoaF x) else ⟨#[63]⟩
theorem lineF_eq (op x : Int) : lineV op x = lineF op x := by
  unfold lineV lineF
  split
  · next h =>
    obtain ⟨_, _, h3, h4, _⟩ := may_range h
    rw [itoaF_eq x h3 (by omega)]
  · rfl
def oneF (k : Nat) (x : S41) : ByteArray := itoaF (k : Int) ++ ⟨#[32]⟩ ++ lineF x.f0 x.f1 ++ ⟨#[10]⟩
def textF : Nat → List S41 → List UInt8
  | _, [] => []
  | k, x :: r => (oneF k x).data.toList ++ textF (k + 1) r
theorem textF_eq : ∀ (l : List S41) (k : Nat), k + l.length < 1000000000 → textGo k l = textF k l
  | [], _, _ => rfl
  | x :: l, k, h => by
    rw [List.length_cons] at h
    rw [textGo, textF, textF_eq l (k + 1) (by omega)]
    unfold oneB oneF
    rw [lineF_eq, itoaF_eq (k : Int) (by omega) (by omega)]
/-- The tables as they were laid. -/
structure LW (w : World) : Prop where
  ht : HT w
  hp : HP w
theorem LW.below {w w' : World} (h : LW w) (hb : Below w.heap.size w w') : LW w' := ⟨h.ht.below hb, h.hp.below hb⟩
theorem text1 : textV [⟨1, 7⟩] = ⟨#[48, 32, 112, 117, 115, 104, 32, 55, 10]⟩ := by
  unfold textV
  rw [textF_eq _ _ (by decide)]
  kernel_rfl
theorem bytes0 : bytesV [] [] = ([88, 82, 0, 0], 0) := rfl
theorem read0 : readV [88, 82, 0, 0] = ([], [], 0) := rfl
def okId (l : List S41) : Bool := l.all (fun x => decide (-9223372036854775808 ≤ x.f1) && decide (x.f1 ≤ 9223372036854775807)) && decide (l.length ≤ 100000)
def prog_Text.f (l0_0 : List S41) (l0_1 : List ByteArray) : Option ByteArray := if okId l0_0 = true then some (textV l0_0) else none
theorem prog_Text.calls (A0_0 : Option Addr) (c0_0 : Nat) (l0_0 : List S41) (A0_1 : Option Addr) (c0_1 : Nat) (l0_1 : List ByteArray) (r : ByteArray) (w : World) (hLW : LW w) (hr0_0 : Kd.C k41 w A0_0 l0_0.length l0_0) (hc0_0 : l0_0.length ≤ c0_0) (hr0_1 : Kd.C Kd.string w A0_1 l0_1.length l0_1) (hc0_1 : l0_1.length ≤ c0_1) (h : prog_Text.f l0_0 l0_1 = some r) :
    Calls Tryd.prog 19 #[.agg #[.slice A0_0 l0_0.length c0_0, .slice A0_1 l0_1.length c0_1]] w fun e w' => e = .returned (.string r) ∧ Below w.heap.size w w' := by
  unfold prog_Text.f at h
  by_cases hk : okId l0_0 = true
  · rw [if_pos hk] at h
    obtain rfl := Option.some.inj h
    unfold okId at hk
    rw [Bool.and_eq_true] at hk
    exact text19 A0_0 l0_0.length c0_0 l0_0 _ w rfl rfl (of_decide_eq_true hk.2) hc0_0 hr0_0 (fun x hx => by
      have := List.all_eq_true.1 hk.1 x hx
      rw [Bool.and_eq_true] at this
      exact ⟨of_decide_eq_true this.1, of_decide_eq_true this.2⟩) hLW.ht hLW.hp
  · rw [if_neg hk] at h; cases h
theorem C_row41 (W : World) (x : S41) : Kd.C k41 (W.alloc (.cells #[.int .i64 x.f0, .int .i64 x.f1] 41)) (some ⟨W.heap.size, 0, none⟩) 1 [x] := by
  refine ⟨rfl, by omega, fun _ => ⟨_, rfl, fun j p hj => ?_⟩⟩
  obtain ⟨hj1, hj2⟩ := List.getElem?_eq_some_iff.1 hj
  have hj0 : j = 0 := by simp at hj1; omega
  subst hj0
  have hp : x = p := hj2
  subst hp
  refine ⟨_, rfl, k41_mk _ x, fun i u hu => ?_⟩
  have h := blk_cell (blk_new W (.cells #[.int .i64 x.f0, .int .i64 x.f1] 41)) i
  have hu' : (#[Value.int .i64 x.f0, Value.int .i64 x.f1] : Array Value)[i]? = some u := by
    rw [← hu]; simp
  rw [hu'] at h
  have e : (⟨W.heap.size, 0, none⟩ : Addr).add (0 * k41.sz + i) = ⟨W.heap.size, i, none⟩ := by
    rw [Nat.zero_mul, Nat.zero_add]
    unfold Addr.add
    by_cases h0 : i = 0
    · subst h0; rfl
    · simp [h0]
  rw [e]
  exact h
set_option maxHeartbeats 4000000 in
set_option maxRecDepth 100000 in
theorem awake10 (w : World) (hLW : LW w) : Calls Tryd.prog 10 #[] w fun e w' => e = .returned (.bool true) ∧ Below w.heap.size w w' := by
  obtain ⟨kb, hkb⟩ := (bytes_ev [] []).rounds
  rw [bytes0] at hkb
  have HBY := Aside0.mk (prog_Bytes.calls kb none 0 [] none 0 [] [88, 82, 0, 0] 0 w (Kd.R_reads' (Kd.R_nil k41 41 w 0 (fun _ => True))).2.2 (Nat.le_refl _) (Kd.R_reads' (Kd.R_nil Kd.string 9 w 0 (fun _ => True))).2.2 (Nat.le_refl _) hkb)
  have HRD := Aside0.mk (fun A c w hr hc => prog_Read.calls A c [88, 82, 0, 0] [] [] 0 w hr hc rfl)
  have HTX := Aside0.mk (fun A w hLW hr => prog_Text.calls A 1 [⟨1, 7⟩] none 0 [] _ w hLW hr (Nat.le_refl _) (Kd.R_reads' (Kd.R_nil Kd.string 9 w 0 (fun _ => True))).2.2 (Nat.le_refl _) (show prog_Text.f [⟨1, 7⟩] [] = some ⟨#[48, 32, 112, 117, 115, 104, 32, 55, 10]⟩ by unfold prog_Text.f; rw [if_pos (by rfl), text1]))
  have HLW := Aside0.mk hLW
  clear hkb hLW
  have hs1 : (strOfNums [88, 82, 0, 0]).toList = [88, 82, 0, 0] := by kernel_rfl
  go_enter Tryd.func10, Tryd.ntmps10
  go_wp2_with (first
    | (go_at_call 12; refine HBY.out.mono ?_; rintro e w1 ⟨v0, rfl, hR1, hB1⟩; obtain ⟨A1, c1, rfl, hc1, hC1⟩ := Kd.R_reads hR1; have HC1 := Aside0.mk hC1; have HB1 := Aside0.mk hB1; clear hR1 hC1 hB1)
    | (go_at_call 14; refine (HRD.out A1 c1 _ HC1.out hc1).mono ?_; rintro e w2 ⟨v1, v2, rfl, hR2, hR3, hB2⟩; obtain ⟨A2, c2, rfl⟩ := Kd.R_slice hR2; obtain ⟨A3, c3, rfl⟩ := Kd.R_slice hR3; have HB2 := Aside0.mk (HB1.out.trans (hB2.mono HB1.out.size)); have hcv : (convert 28 9 (.slice A1 4 c1)).run Tryd.prog (w2.alloc (.cells #[.slice A2 0 c2, .slice A3 0 c3] 25)) = .ok (.string (strOfNums [88, 82, 0, 0])) (w2.alloc (.cells #[.slice A2 0 c2, .slice A3 0 c3] 25)) := Kd.C_string (P := Tryd.prog) (A := A1) (c := c1) Tryd.underlying28 Tryd.underlying5 Tryd.underlying9 (Kd.C_below (Kd.C_below HC1.out hB2) (below_alloc (Below.refl _ _) _)); have hrow : Kd.C k41 ((w2.alloc (.cells #[.slice A2 0 c2, .slice A3 0 c3] 25)).alloc (.cells #[.int .i64 1, .int .i64 7] 41)) (some ⟨w2.heap.size + 1, 0, none⟩) 1 [⟨1, 7⟩] := (by have h_ := C_row41 (w2.alloc (.cells #[.slice A2 0 c2, .slice A3 0 c3] 25)) ⟨1, 7⟩; rw [World.size_alloc] at h_; exact h_); have HROW := Aside0.mk hrow; clear hR2 hR3 hB2 hrow)
    | (go_at_call 19; refine (HTX.out _ _ (HLW.out.below (below_alloc (below_alloc HB2.out _) _)) HROW.out).mono ?_; rintro e w3 ⟨rfl, hB3⟩; have HB3 := Aside0.mk ((below_alloc (below_alloc HB2.out _) _).trans (hB3.mono (below_alloc (below_alloc HB2.out _) _).size)); clear hB3))
  go_ret
  exact ⟨rfl, HB3.out⟩
def crossroadslaw10_awake.f : Option Bool := some true
theorem crossroadslaw10_awake.calls (r : Bool) (w : World) (hLW : LW w) (h : crossroadslaw10_awake.f = some r) : Calls Tryd.prog 10 #[] w fun e w' => e = .returned (.bool r) ∧ Below w.heap.size w w' := by
  obtain rfl := Option.some.inj h
  exact awake10 w hLW
end Go.Proofs.YtckmgoeflecpgaaDoor.G
