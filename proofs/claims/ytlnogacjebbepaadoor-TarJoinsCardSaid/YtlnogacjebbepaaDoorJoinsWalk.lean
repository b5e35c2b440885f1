/- The law TarJoins, walked over the contracts of what it calls: it answers true. -/
import Derived.Test.YtlnogacjebbepaaDoorBytesWalk
import Derived.Test.YtlnogacjebbepaaDoorPureTarWrites
namespace Go.Proofs.YtlnogacjebbepaaDoor.H
set_option linter.unusedVariables false
set_option linter.unusedSimpArgs false
open Go.RowKit Go.Proofs.YtlnogacjebbepaaDoor.P Go.Proofs.YtlnogacjebbepaaDoor.G Go.Proofs.YtlnogacjebbepaaDoor.Pure Go.Proofs.YtlnogacjebbepaaDoorW.PrintWords Go.Proofs.YtlnogacjebbepaaDoorW.PrintLast Go.Proofs.YtlnogacjebbepaaDoorW.PrintMore
theorem smallC (l : List S37) (h : okS l) (A : Option Addr) (c : Nat) (hc : l.length ≤ c) : ∃ b, (∀ W, Kd.C k37 W A l.length l → Calls Tryd.prog 9 #[.slice A l.length c] W fun e w' => e = .returned (.bool b) ∧ Drawn0 W w') ∧ (b = true → l.length ≤ 200 ∧ ∀ x ∈ l, x.f0.size ≤ 200000 ∧ x.f2.length ≤ 200000) := by
  obtain ⟨b, hb, hp⟩ := small_ev l h
  obtain ⟨k, hk⟩ := hb.rounds
  exact ⟨b, fun W hC => crossroadslaw22_Small.calls k A c l b W hC hc hk, hp⟩
theorem madeC (l : List S37) (hl : l.length ≤ 1000000) (A : Option Addr) (n c : Nat) (hn : l.length = n) (hc : n ≤ c) (W : World) (hC : Kd.C k37 W A n l) : Calls Tryd.prog 11 #[.slice A n c] W fun e w' => ∃ A' c', e = .returned (.slice A' n c') ∧ n ≤ c' ∧ Kd.C k44 w' A' n (l.map conv) ∧ Below W.heap.size W w' := by
  subst hn
  obtain ⟨k, hk⟩ := (made_ev l hl).rounds
  refine (crossroadslaw22_Made.calls k (fun k_ => k_ < W.heap.size) A c l (l.map conv) W (Kd.V_mk hc (Kd.C_F k37_heap hC)) hk).mono ?_
  rintro e w' ⟨v, rfl, hN, hB⟩
  obtain ⟨A', c', rfl⟩ := Kd.N_slice hN
  have h := Kd.N_reads' hN
  have hl2 : (l.map conv).length = l.length := List.length_map ..
  rw [hl2] at h ⊢
  exact ⟨A', c', rfl, by omega, h.2.2, hB⟩
theorem sameC (l : List S37) (hl : l.length ≤ 1000000) (A0 A1 : Option Addr) (n c0 c1 : Nat) (hn : l.length = n) (hc0 : n ≤ c0) (hc1 : n ≤ c1) (W : World) (h0 : Kd.C k44 W A0 n (l.map conv)) (h1 : Kd.C k37 W A1 n l) : Calls Tryd.prog 17 #[.slice A0 n c0, .slice A1 n c1] W fun e w' => e = .returned (.bool true) ∧ ∃ q, w' = W.drewN q := by
  subst hn
  obtain ⟨k, hk⟩ := (same_ev l hl).rounds
  have hl2 : (l.map conv).length = l.length := List.length_map ..
  have h := crossroadslaw22_same.calls k A0 c0 (l.map conv) A1 c1 l true W (by rw [hl2]; exact h0) (by rw [hl2]; exact hc0) h1 hc1 hk
  rw [hl2] at h
  exact h.mono fun e w' h => ⟨h.1, h.2.out⟩
/-- Two rows of files, one behind the other. -/
theorem bodyB_app : ∀ (a b : List S44), bodyB (a ++ b) = bodyB a ++ bodyB b
  | [], b => rfl
  | x :: a, b => by rw [List.cons_append, bodyB, bodyB, bodyB_app a b, List.append_assoc]
theorem joined {a b : List S44} (ha : mayV a = 0) (hb : mayV b = 0) : mayV (a ++ b) = 0 ∨ mayV (a ++ b) = 3 := by
  have h1 := (may_ok ha).1
  have h2 := (may_ok hb).1
  have h : ∀ x ∈ a ++ b, okF x := fun x hx => (List.mem_append.1 hx).elim (h1 x) (h2 x)
  unfold mayV
  rw [if_neg (fun ⟨x, hx, hbad⟩ => (h x hx).1 hbad), if_neg (fun ⟨x, hx, hbad⟩ => (h x hx).2.1 hbad)]
  by_cases c : 128 < 2 + costs (a ++ b)
  · rw [if_pos c]; exact .inr rfl
  · rw [if_neg c]; exact .inl rfl
theorem N_none (W : World) (base g : Nat) (hb : base ≤ g) (hg : W.heap[g]? = some (.cells #[] 37 (0, 0))) : Kd.N k37 37 W base (fun _ => True) (.slice (some ⟨g, 0, none⟩) 0 0) [] :=
  Kd.R_N ⟨fun _ _ => trivial, [], ⟨by simp, .inr ⟨g, 0, #[], rfl, hb, hg, Nat.le_refl _, by unfold maxLen; omega, by simp, by simp⟩⟩, Reps.none _ _⟩
theorem inf37 : (Tryd.prog.info? 37).map (fun i => (i.zero, i.size, i.bytes)) = some (some (.agg #[.string ⟨#[]⟩, .bool false, .slice none 0 0]), k37.sz, 48) := by kernel_rfl
theorem write_code (l : List S44) : (writeV l).2 = mayV l := by
  unfold writeV
  by_cases h : mayV l = 0
  · rw [if_pos h, h]
  · rw [if_neg h]
set_option maxHeartbeats 8000000 in
set_option maxRecDepth 100000 in
theorem joins_walk (A0 : Option Addr) (c0 : Nat) (l0 : List S37) (A1 : Option Addr) (c1 : Nat) (l1 : List S37) (w : World) (hr0 : Kd.C k37 w A0 l0.length l0) (hc0 : l0.length ≤ c0) (hf0 : okS l0) (hr1 : Kd.C k37 w A1 l1.length l1) (hc1 : l1.length ≤ c1) (hf1 : okS l1) :
    Calls Tryd.prog 6 #[.slice A0 l0.length c0, .slice A1 l1.length c1] w (Ans w) := by
  obtain ⟨b0, S0, P0⟩ := smallC l0 hf0 A0 c0 hc0
  obtain ⟨b1, S1, P1⟩ := smallC l1 hf1 A1 c1 hc1
  have HS0 := Aside0.mk S0
  have HS1 := Aside0.mk S1
  have HR0 := Aside0.mk hr0
  have HR1 := Aside0.mk hr1
  have HC0 := Aside0.mk hc0
  have HC1 := Aside0.mk hc1
  clear S0 S1 hr0 hr1 hf0 hf1 hc0 hc1
  cases b0
  · go_enter Tryd.func6, Tryd.ntmps6
    go_wp2_with fail
    refine (awakeC _).mono ?_
    rintro e W1 ⟨rfl, hB1⟩
    go_wp2_with fail
    refine (HS0.out _ (Kd.C_below HR0.out hB1)).mono ?_
    rintro e W2 ⟨rfl, ⟨⟨q2, rfl⟩⟩⟩
    go_wp2_with fail
    go_ret
    exact ⟨rfl, pw_below_drewN hB1 _⟩
  · cases b1
    · go_enter Tryd.func6, Tryd.ntmps6
      go_wp2_with fail
      refine (awakeC _).mono ?_
      rintro e W1 ⟨rfl, hB1⟩
      go_wp2_with fail
      refine (HS0.out _ (Kd.C_below HR0.out hB1)).mono ?_
      rintro e W2 ⟨rfl, ⟨⟨q2, rfl⟩⟩⟩
      go_wp2_with fail
      refine (HS1.out _ (Kd.C_below HR1.out (pw_below_drewN hB1 _))).mono ?_
      rintro e W3 ⟨rfl, ⟨⟨q3, rfl⟩⟩⟩
      go_wp2_with fail
      go_ret
      exact ⟨rfl, pw_below_drewN hB1 _⟩
    · obtain ⟨p0, _⟩ := P0 rfl
      obtain ⟨p1, _⟩ := P1 rfl
      clear P0 P1
      have HM0 := Aside0.mk (fun W hC => madeC l0 (by omega) A0 l0.length c0 rfl HC0.out W hC)
      have HM1 := Aside0.mk (fun W hC => madeC l1 (by omega) A1 l1.length c1 rfl HC1.out W hC)
      have hlm0 : (l0.map conv).length = l0.length := List.length_map ..
      have hlm1 : (l1.map conv).length = l1.length := List.length_map ..
      have HW0 := Aside0.mk (fun A c hc W hC => writeC (l0.map conv) (by omega) A l0.length c hlm0 hc W hC)
      have HW1 := Aside0.mk (fun A c hc W hC => writeC (l1.map conv) (by omega) A l1.length c hlm1 hc W hC)
      have hl01 : (l0 ++ l1).length = l0.length + l1.length := List.length_append ..
      have hlm : ((l0 ++ l1).map conv).length = l0.length + l1.length := by rw [List.length_map]; exact hl01
      have HM := Aside0.mk (fun A c hc W hC => madeC (l0 ++ l1) (by omega) A (l0.length + l1.length) c hl01 hc W hC)
      have HWz := Aside0.mk (fun A c hc W hC => writeC ((l0 ++ l1).map conv) (by omega) A (l0.length + l1.length) c hlm hc W hC)
      clear hlm0 hlm1 hlm hl01
      go_enter Tryd.func6, Tryd.ntmps6
      go_wp2_with fail
      refine (awakeC _).mono ?_
      rintro e W1 ⟨rfl, hB1⟩
      go_wp2_with fail
      refine (HS0.out _ (Kd.C_below HR0.out hB1)).mono ?_
      rintro e W2 ⟨rfl, ⟨⟨q2, rfl⟩⟩⟩
      go_wp2_with fail
      refine (HS1.out _ (Kd.C_below HR1.out (pw_below_drewN hB1 _))).mono ?_
      rintro e W3 ⟨rfl, ⟨⟨q3, rfl⟩⟩⟩
      have HB3 := Aside0.mk (pw_below_drewN hB1 (q2 + q3))
      clear hB1
      go_wp2_with fail
      refine (HM0.out _ (Kd.C_below HR0.out HB3.out)).mono ?_
      rintro e W4 ⟨A4, c4, rfl, hc4, hC4, hB4⟩
      have HB4 := Aside0.mk (below_step HB3.out hB4)
      have HC4 := Aside0.mk hC4
      have HL4 := Aside0.mk hc4
      clear hc4 hC4 hB4 HB3
      go_wp2_with fail
      refine (HW0.out A4 c4 HL4.out _ HC4.out).mono ?_
      rintro e W5 ⟨A5, c5, rfl, hc5, hR5, hB5⟩
      have HB5 := Aside0.mk (below_step HB4.out hB5)
      have HR5 := Aside0.mk hR5
      have HL5 := Aside0.mk hc5
      clear hc5 hR5 hB5 HB4 HC4 HL4
      go_wp2_with fail
      refine (HM1.out _ (Kd.C_below HR1.out HB5.out)).mono ?_
      rintro e W6 ⟨A6, c6, rfl, hc6, hC6, hB6⟩
      have HB6 := Aside0.mk (below_step HB5.out hB6)
      have HR6 := Aside0.mk (Kd.R_below HR5.out hB6)
      have HC6 := Aside0.mk hC6
      have HL6 := Aside0.mk hc6
      clear hc6 hC6 hB6 HB5 HR5
      go_wp2_with fail
      refine (HW1.out A6 c6 HL6.out _ HC6.out).mono ?_
      rintro e W7 ⟨A7, c7, rfl, hc7, hR7, hB7⟩
      have HB7 := Aside0.mk (below_step HB6.out hB7)
      have HRx := Aside0.mk (Kd.R_below HR6.out hB7)
      have HRy := Aside0.mk hR7
      have HLy := Aside0.mk hc7
      clear hc7 hR7 hB7 HB6 HR6 HC6 HL6
      have HN0 := Aside0.mk (N_none (W7.alloc (.cells #[] 37)) w.heap.size W7.heap.size HB7.out.size (blk_new W7 _))
      have HF0 := Aside0.mk (Kd.C_F k37_heap HR0.out)
      have HF1 := Aside0.mk (Kd.C_F k37_heap HR1.out)
      have HZ7 := Aside0.mk HB7.out.size
      have hbyte := Aside0.mk (show (l0.length + l1.length) * 48 ≤ 140737488355328 by omega)
      have hne7 : ∀ k, k < w.heap.size → some k ≠ (Value.slice (some ⟨W7.heap.size, 0, none⟩) 0 0).ownBlock := fun k hk he => by
        have h1 : k = W7.heap.size := Option.some.inj he
        have h2 := HZ7.out
        omega
      have HNE7 := Aside0.mk hne7
      have HBA := Aside0.mk (below_alloc HB7.out (.cells #[] 37))
      have HZA := Aside0.mk (show w.heap.size ≤ (W7.alloc (.cells #[] 37)).heap.size by have h2 := HZ7.out; simp; omega)
      clear hne7
      go_wp2_with (first
        | (at_builtin; refine Kd.N_append_rows k37 (w0 := w) w.heap.size rfl (.tmp 36) (.tmp 37) 22 37 (.agg #[.string ⟨#[]⟩, .bool false, .slice none 0 0]) 48 rfl Tryd.underlying22 inf37 rfl (by decide) (by omega) (.slice (some ⟨W7.heap.size, 0, none⟩) 0 0) [] l0 A0 l0.length c0 (fun _ => True) (fun k => k < w.heap.size) rfl rfl HN0.out (Kd.F_below HF0.out HBA.out) (fun k hk => ⟨trivial, HNE7.out k hk⟩) (fun _ _ => trivial) HBA.out HZA.out (by have h2 := hbyte.out; rw [List.length_nil]; omega) ?_; intro v8 w8 hN8 hB8 hg8 hat8; obtain ⟨A8, c8, rfl⟩ := Kd.N_slice hN8; have HN8 := Aside0.mk hN8; have HB8 := Aside0.mk hB8; have HZ8 := Aside0.mk (Nat.le_trans HZA.out hg8.size); have hne8 : ∀ k, k < w.heap.size → some k ≠ (Value.slice A8 ([] ++ l0).length c8).ownBlock := fun k hk he => (Or.elim hat8 (fun h => HNE7.out k hk (he.trans h)) (fun ⟨b, h, hb⟩ => by (have h1 := Option.some.inj (he.trans h)); (have h2 := HZA.out); omega)); have HNE8 := Aside0.mk hne8; have HLB8 := Aside0.mk (fun k (hk : (Value.slice A8 ([] ++ l0).length c8).ownBlock = some k) => show W7.heap.size ≤ k from Or.elim hat8 (fun h => Nat.le_of_eq (Option.some.inj (h.symm.trans hk))) (fun ⟨b, h, hb⟩ => by (have h1 := Option.some.inj (h.symm.trans hk)); (have h2 : (W7.alloc (.cells #[] 37)).heap.size = W7.heap.size + 1 := by simp); omega)); have HBW8 := Aside0.mk ((below_alloc (Below.refl W7.heap.size W7) (.cells #[] 37)).grown hg8 (by simp) (fun k hk => Nat.le_of_eq (Option.some.inj hk))); clear hN8 hB8 hg8 hat8 hne8)
        | (at_builtin; refine Kd.N_append_rows k37 (w0 := w) w.heap.size rfl (.tmp 38) (.tmp 39) 22 37 (.agg #[.string ⟨#[]⟩, .bool false, .slice none 0 0]) 48 rfl Tryd.underlying22 inf37 rfl (by decide) (by omega) _ ([] ++ l0) l1 A1 l1.length c1 (fun _ => True) (fun k => k < w.heap.size) rfl rfl HN8.out (Kd.F_below HF1.out HB8.out) (fun k hk => ⟨trivial, HNE8.out k hk⟩) (fun _ _ => trivial) HB8.out HZ8.out (by have h2 := hbyte.out; rw [List.nil_append]; omega) ?_; intro v9 w9 hN9 hB9 hg9 hat9; obtain ⟨A9, c9, rfl⟩ := Kd.N_slice hN9; have HN9 := Aside0.mk hN9; have HB9 := Aside0.mk hB9; have HBW9 := Aside0.mk (HBW8.out.grown hg9 HBW8.out.size HLB8.out); clear hN9 hB9 hg9 hat9))
      have hl9 : ([] ++ l0 ++ l1).length = l0.length + l1.length := by simp
      have h9 := Kd.N_reads' HN9.out
      rw [hl9] at h9
      have HC9 := Aside0.mk h9.2.2
      have HL9 := Aside0.mk h9.2.1
      have HRx9 := Aside0.mk (Kd.R_below HRx.out HBW9.out)
      have HRy9 := Aside0.mk (Kd.R_below HRy.out HBW9.out)
      clear hl9 h9 HN8 HN9 HB8 HBA HZA HBW8 HLB8 HNE8 HNE7 HRx HRy HN0 HF0 HF1 HZ7 HZ8 HBW9 HB7
      refine (HM.out A9 c9 HL9.out _ HC9.out).mono ?_
      rintro e W10 ⟨A10, c10, rfl, hc10, hC10, hB10⟩
      have HB10 := Aside0.mk (below_step HB9.out hB10)
      have HC10 := Aside0.mk hC10
      have HL10 := Aside0.mk hc10
      have HC9a := Aside0.mk (Kd.C_below HC9.out hB10)
      have HRx10 := Aside0.mk (Kd.R_below HRx9.out hB10)
      have HRy10 := Aside0.mk (Kd.R_below HRy9.out hB10)
      clear hc10 hC10 hB10 HB9 HC9 HRx9 HRy9
      go_wp2_with fail
      refine (HWz.out A10 c10 HL10.out _ HC10.out).mono ?_
      rintro e W11 ⟨A11, c11, rfl, hc11, hR11, hB11⟩
      have HB11 := Aside0.mk (below_step HB10.out hB11)
      have HC11 := Aside0.mk (Kd.C_below HC9a.out hB11)
      have HRx11 := Aside0.mk (Kd.R_below HRx10.out hB11)
      have HRy11 := Aside0.mk (Kd.R_below HRy10.out hB11)
      have HRz11 := Aside0.mk hR11
      have HLz11 := Aside0.mk hc11
      clear hc11 hR11 hB11 HB10 HC9a HRx10 HRy10 HC10 HL10 HM HM0 HM1 HW0 HW1 HWz HS0 HS1 HR0 HR1
      rw [write_code, write_code, write_code]
      by_cases cx : mayV (l0.map conv) = 0
      · by_cases cy : mayV (l1.map conv) = 0
        · rw [cx, cy]
          have hj : mayV ((l0 ++ l1).map conv) = 0 ∨ mayV ((l0 ++ l1).map conv) = 3 := by rw [List.map_append]; exact joined cx cy
          rcases hj with hj | hj
          · rw [hj]
            have wx : (writeV (l0.map conv)).1 = bodyB (l0.map conv) ++ zs 1024 := by unfold writeV; rw [if_pos cx]
            have wy : (writeV (l1.map conv)).1 = bodyB (l1.map conv) ++ zs 1024 := by unfold writeV; rw [if_pos cy]
            have wz : (writeV ((l0 ++ l1).map conv)).1 = bodyB ((l0 ++ l1).map conv) ++ zs 1024 := by unfold writeV; rw [if_pos hj]
            rw [wx] at HRx11 HL5
            rw [wy] at HRy11
            rw [wz] at HRz11 HLz11
            rw [wx, wy, wz]
            have okx := may_ok cx
            have oky := may_ok cy
            have ez : bodyB ((l0 ++ l1).map conv) ++ zs 1024 = bodyB (l0.map conv) ++ (bodyB (l1.map conv) ++ zs 1024) := by rw [List.map_append, bodyB_app, List.append_assoc]
            have lx : (bodyB (l0.map conv)).length ≤ 65536 := by rw [bodyB_len _ okx.1]; omega
            have ly : (bodyB (l1.map conv) ++ zs 1024).length ≤ 70000 := by rw [List.length_append, bodyB_len _ oky.1, zs_len]; omega
            have hlm : ((l0 ++ l1).map conv).length = l0.length + l1.length := by simp
            have HRD := Aside0.mk (fun A n c hn hc W hC => readC ((l0 ++ l1).map conv) hj A n c hn hc W hC)
            have HSM := Aside0.mk (fun A B n c0 c1 hn hc0 hc1 W h0 h1 => sameC (l0 ++ l1) (by simp; omega) A B n c0 c1 hn hc0 hc1 W h0 h1)
            rw [ez] at HRz11 HLz11 HRD ⊢
            obtain ⟨XL, hXL⟩ : ∃ XL, XL = (bodyB (l0.map conv) ++ zs 1024).length := ⟨_, rfl⟩
            have hXL2 : XL = (bodyB (l0.map conv)).length + 1024 := by rw [hXL, List.length_append, zs_len]
            have hxr := (Kd.R_reads' HRx11.out).2
            rw [← hXL] at hxr ⊢
            have hxt := Kd.C_take (m := (bodyB (l0.map conv)).length) (by rw [← hXL]; exact hxr.2) (by rw [List.length_append]; omega)
            rw [List.take_left] at hxt
            have HXT := Aside0.mk hxt
            have HXC := Aside0.mk hxr.1
            have HYR := Aside0.mk (Kd.R_reads' HRy11.out).2.2
            have HZR := Aside0.mk (Kd.R_reads' HRz11.out).2.2
            rw [hlm] at HRD
            clear hxr hxt okx oky cx cy hj wx wy wz ez hXL HRx11 HRy11 HRz11
            generalize bodyB (l1.map conv) ++ zs 1024 = Y at *
            generalize bodyB (l0.map conv) = X at *
            have HLM := Aside0.mk hlm
            have HX2 := Aside0.mk hXL2
            have HLX := Aside0.mk lx
            have HLY := Aside0.mk ly
            clear hlm hXL2 lx ly
            go_wp2_with fail
            have HZ2 := HZR.out
            rw [List.length_append] at HZ2
            refine (HRD.out A11 (X.length + Y.length) c11 List.length_append (by have h := HLz11.out; rw [List.length_append] at h; exact h) _ HZ2).mono ?_
            rintro e W12 ⟨A12, c12, rfl, hc12, hC12, hB12⟩
            have HB12 := Aside0.mk (below_step HB11.out hB12)
            have hcz := fun n_ : Nat => Kd.C_string (P := Tryd.prog) (w := W12.drewN n_) (c := c11) Tryd.underlying25 Tryd.underlying5 Tryd.underlying9 (Kd.C_below HZ2 (pw_below_drewN hB12 n_))
            have hcx := fun n_ : Nat => Kd.C_string (P := Tryd.prog) (w := W12.drewN n_) (c := c5) Tryd.underlying25 Tryd.underlying5 Tryd.underlying9 (Kd.C_below HXT.out (pw_below_drewN hB12 n_))
            have hcy := fun n_ : Nat => Kd.C_string (P := Tryd.prog) (w := W12.drewN n_) (c := c7) Tryd.underlying25 Tryd.underlying5 Tryd.underlying9 (Kd.C_below HYR.out (pw_below_drewN hB12 n_))
            have HSA := Aside0.mk (fun n_ : Nat => HSM.out A12 A9 (l0.length + l1.length) c12 c9 (by simp) hc12 HL9.out (W12.drewN n_) hC12 (Kd.C_below HC11.out (pw_below_drewN hB12 n_)))
            have hcut : ∀ W : World, (Instr.slice 25 (.slice A5 XL c5) none (some (.int .i64 (X.length : Int))) none).run Tryd.prog W = .ok (.slice A5 X.length c5) W := (cutT A5 c5 (X ++ zs 1024) X.length XL (by rw [List.length_append, zs_len]; exact HX2.out.symm) (by have := HX2.out; omega) HXC.out).1
            have hsub : (XL : Int) - 1024 = (X.length : Int) := by have := HX2.out; omega
            have hwr : IntKind.i64.wrap ((XL : Int) - 1024) = (X.length : Int) := by rw [hsub, IntKind.wrap_i64]; have := HLX.out; omega
            clear hcut hwr
            have hwr2 : IntKind.i64.wrap (X.length : Int) = (X.length : Int) := by rw [IntKind.wrap_i64]; have := HLX.out; omega
            have hb1 : (0 : Int) ≤ (X.length : Int) := by omega
            have hb2 : (X.length : Int) ≤ (c5 : Int) := by have h := HL5.out; rw [List.length_append, zs_len] at h; omega
            have hb3 : X.length ≤ c5 := by omega
            have est : strOfNums (X ++ Y) = strOfNums X ++ strOfNums Y := by
              have h1 : (strOfNums (X ++ Y)).data.toList = (strOfNums X ++ strOfNums Y).data.toList := by
                rw [ByteArray.data_append, Array.toList_append, ← Lib.toList_data, ← Lib.toList_data, ← Lib.toList_data, Lib.strOfNums_toList, Lib.strOfNums_toList, Lib.strOfNums_toList]
                unfold Lib.bytesOf
                rw [List.map_append]
              exact ByteArray.ext (Array.toList_inj.1 h1)
            have hsx : (strOfNums X).size = X.length := by have := congrArg List.length (Lib.strOfNums_toList X); rw [Lib.toList_data, Array.length_toList, Lib.bytesOf_length] at this; exact this
            have hsy : (strOfNums Y).size = Y.length := by have := congrArg List.length (Lib.strOfNums_toList Y); rw [Lib.toList_data, Array.length_toList, Lib.bytesOf_length] at this; exact this
            have hsz : (strOfNums X).size + (strOfNums Y).size ≤ 9223372036854775807 := by rw [hsx, hsy]; have := HLX.out; have := HLY.out; omega
            have heq : ((strOfNums (X ++ Y)).toList == (strOfNums X ++ strOfNums Y).toList) = true := by rw [est]; exact beq_self_eq_true _
            clear est hsx hsy hB12 hC12 hc12
            go_wp2_with fail
            go_quiet ((go_at_call 17; exact Calls.quiet_of (HSA.out _)))
            go_wp2_with fail
            go_ret
            exact ⟨rfl, pw_below_drewN HB12.out _⟩
          · rw [hj]
            clear HRx11 HRy11 HRz11 HLz11 cx cy hj
            generalize (writeV (l0.map conv)).1 = X at *
            generalize (writeV (l1.map conv)).1 = Y at *
            generalize (writeV ((l0 ++ l1).map conv)).1 = Z at *
            go_wp2_with fail
            go_ret
            exact ⟨rfl, HB11.out⟩
        · rw [cx]
          have g1 : (mayV (l1.map conv) != 0) = true := bne_iff_ne.2 cy
          have g2 : (mayV (l1.map conv) == 0) = false := beq_eq_false_iff_ne.2 cy
          clear HRx11 HRy11 HRz11 HLz11 cx cy
          generalize mayV (l1.map conv) = my at *
          generalize mayV ((l0 ++ l1).map conv) = mz at *
          generalize (writeV (l0.map conv)).1 = X at *
          generalize (writeV (l1.map conv)).1 = Y at *
          generalize (writeV ((l0 ++ l1).map conv)).1 = Z at *
          go_wp2_with fail
          go_ret
          exact ⟨rfl, HB11.out⟩
      · have g1 : (mayV (l0.map conv) != 0) = true := bne_iff_ne.2 cx
        have g2 : (mayV (l0.map conv) == 0) = false := beq_eq_false_iff_ne.2 cx
        clear HRx11 HRy11 HRz11 HLz11 cx
        generalize mayV (l0.map conv) = mx at *
        generalize mayV (l1.map conv) = my at *
        generalize mayV ((l0 ++ l1).map conv) = mz at *
        generalize (writeV (l0.map conv)).1 = X at *
        generalize (writeV (l1.map conv)).1 = Y at *
        generalize (writeV ((l0 ++ l1).map conv)).1 = Z at *
        go_wp2_with fail
        go_ret
        exact ⟨rfl, HB11.out⟩
end Go.Proofs.YtlnogacjebbepaaDoor.H
