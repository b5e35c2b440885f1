/- The law TarBytes, walked over the contracts of what it calls: it answers true. -/
import Derived.Test.YtlnogacjebbepaaDoorTarA
namespace Go.Proofs.YtlnogacjebbepaaDoor.H
set_option linter.unusedVariables false
set_option linter.unusedSimpArgs false
open Go.RowKit Go.Proofs.YtlnogacjebbepaaDoor.P Go.Proofs.YtlnogacjebbepaaDoor.G Go.Proofs.YtlnogacjebbepaaDoorW.PrintWords Go.Proofs.YtlnogacjebbepaaDoorW.PrintLast Go.Proofs.YtlnogacjebbepaaDoorW.PrintMore
theorem awakeC (W : World) : Calls Tryd.prog 8 #[] W fun e w' => e = .returned (.bool true) ∧ Below W.heap.size W w' := by
  obtain ⟨k, hk⟩ := awake_ev.rounds
  exact crossroadslaw22_awake.calls k true W hk
theorem writeC (l : List S44) (hl : l.length ≤ 1000000) (A : Option Addr) (n c : Nat) (hn : l.length = n) (hc : n ≤ c) (W : World) (hC : Kd.C k44 W A n l) : Calls Tryd.prog 10 #[.slice A n c] W fun e w' => ∃ A' c', e = .returned (.tuple #[.slice A' (writeV l).1.length c', .int .i64 (writeV l).2]) ∧ (writeV l).1.length ≤ c' ∧ Kd.R (Kd.int .u8) 5 w' W.heap.size (fun _ => True) (.slice A' (writeV l).1.length c') (writeV l).1 ∧ Below W.heap.size W w' := by
  subst hn
  obtain ⟨k, hk⟩ := (write_ev l (by omega)).rounds
  refine (tar_Write.calls k A c l (writeV l).1 (writeV l).2 W hC hc hk).mono ?_
  rintro e w' ⟨v, rfl, hR, hB⟩
  obtain ⟨A', c', rfl, h3, h4⟩ := Kd.R_reads hR
  exact ⟨A', c', rfl, h3, hR, hB⟩
theorem readC (l : List S44) (hm : mayV l = 0) (A : Option Addr) (n c : Nat) (hn : (bodyB l ++ zs 1024).length = n) (hc : n ≤ c) (W : World) (hC : Kd.C (Kd.int .u8) W A n (bodyB l ++ zs 1024)) : Calls Tryd.prog 13 #[.slice A n c] W fun e w' => ∃ A' c', e = .returned (.tuple #[.slice A' l.length c', .int .i64 0]) ∧ l.length ≤ c' ∧ Kd.C k44 w' A' l.length l ∧ Below W.heap.size W w' := by
  obtain ⟨k, hk⟩ := (read_ok l hm).rounds
  generalize bodyB l ++ zs 1024 = B at *
  subst hn
  refine (tar_Read.calls k (fun k_ => k_ < W.heap.size) A c B l 0 W (Kd.V_mk hc (Kd.C_F (Kd.heap_int .u8) hC)) hk).mono ?_
  rintro e w' ⟨v, rfl, hS, hB⟩
  obtain ⟨A', c', rfl, h3, h4⟩ := Kd.R_reads (Kd.S_R hS)
  exact ⟨A', c', rfl, h3, h4, hB⟩
theorem made_zs (m : Nat) : madeCells #[.int .u8 0] m = (vals (zs m)).toArray := by
  apply Array.ext
  · simp [madeCells, vals, zs]
  · intro i h1 h2
    simp [madeCells, vals, zs, Nat.mod_one]
/-- What Write gives for one file. -/
theorem write_bad {X : S44} (h : badName X.f0) : writeV [X] = ([], 10) := by
  have hm : mayV [X] = 10 := by unfold mayV; rw [if_pos ⟨X, by simp, h⟩]
  unfold writeV
  rw [hm, if_neg (by decide)]
theorem u16_ok {a : Int} (h : (Lit.int .u16 a).wf = true) : 0 ≤ a ∧ a < 65536 := by
  simp [Lit.wf, IntKind.min, IntKind.max, IntKind.bits, IntKind.signed] at h
  omega
def Ans (w : World) (e : Ending) (w' : World) : Prop := e = .returned (.bool true) ∧ Below w.heap.size w w'
set_option maxHeartbeats 8000000 in
set_option maxRecDepth 100000 in
theorem bytes_walk (name : ByteArray) (A : Option Addr) (n c : Nat) (L : List Int) (a2 : Int) (w : World) (hns : name.size ≤ 140737488351232) (hL : L.length = n) (hr : Kd.C (Kd.int .u8) w A n L) (hc : n ≤ c) (hnn : n ≤ 9223372036854775807) (h2 : 0 ≤ a2) (h2' : a2 < 65536) (okL : okB L) :
    Calls Tryd.prog 7 #[.string name, .slice A n c, .int .u16 a2] w (Ans w) := by
  have hrd0 := Kd.reads_of_C (enc := Value.int .u8) (d := (0 : Int)) (h1 := fun _ => rfl) hr
  have HL := Aside0.mk hL
  have HOK := Aside0.mk okL
  have HRD := Aside0.mk hrd0
  clear hrd0 hL okL hr
  by_cases c1 : 300 < name.size
  · have k1 : decide ((300 : Int) < (name.size : Int)) = true := decide_eq_true (by omega)
    clear c1
    go_enter Tryd.func7, Tryd.ntmps7
    go_wp2_with (go_at_call 8; refine (awakeC _).mono ?_; rintro e W1 ⟨rfl, hB1⟩)
    go_ret
    exact ⟨rfl, hB1⟩
  · have k1 : decide ((300 : Int) < (name.size : Int)) = false := decide_eq_false (by omega)
    by_cases c2 : 2000 < n
    · have k2 : decide ((2000 : Int) < (n : Int)) = true := decide_eq_true (by omega)
      clear c1 c2
      go_enter Tryd.func7, Tryd.ntmps7
      go_wp2_with (go_at_call 8; refine (awakeC _).mono ?_; rintro e W1 ⟨rfl, hB1⟩)
      go_ret
      exact ⟨rfl, hB1⟩
    · have k2 : decide ((2000 : Int) < (n : Int)) = false := decide_eq_false (by omega)
      obtain ⟨m, hm, hm2⟩ : ∃ m : Nat, a2 % 3000 = (m : Int) ∧ m < 3000 := ⟨(a2 % 3000).toNat, by omega, by omega⟩
      have hmk : ∀ W : World, (Instr.makeSlice 25 (.int .i64 (m : Int)) (.int .i64 (m : Int))).run Tryd.prog W = .ok (.slice (some ⟨W.heap.size, 0, none⟩) m m) (W.alloc (.cells (madeCells #[.int .u8 0] m) 5)) := fun W => run_make_row' (P := Tryd.prog) 25 5 (.int .u8 0) 1 Tryd.underlying25 info5 rfl .i64 .i64 m (by omega) (by omega) W
      go_enter Tryd.func7, Tryd.ntmps7
      go_wp2_with (go_at_call 8; refine (awakeC _).mono ?_; rintro e W1 ⟨rfl, hB1⟩)
      have HG0 := Aside0.mk (show (World.alloc W1 (.cells (madeCells #[.int .u8 0] m) 5)).heap[W1.heap.size]? = some (.cells (vals (zs m)).toArray 5 (0, 0)) by rw [blk_new, made_zs])
      have HW1 := Aside0.mk hB1.size
      have HB0 := Aside0.mk (below_alloc hB1 (.cells (madeCells #[.int .u8 0] m) 5))
      clear hB1 hmk
      go_loopw [8] (fun v8 wr => ∃ (i : Nat) (D : List Int), v8 = .int .i64 (i : Int) ∧ i ≤ m ∧ Aside0 (D.length = m ∧ okB D) ∧ Aside0 (wr.heap[W1.heap.size]? = some (.cells (vals D).toArray 5 (0, 0))) ∧ Aside0 (Below w.heap.size w wr)) (fun v8 _ => m - (intOf v8).toNat)
      case atStart => exact ⟨0, zs m, rfl, Nat.zero_le _, ⟨zs_len m, okB_zs m⟩, HG0, HB0⟩
      case round =>
        obtain ⟨i, D, rfl, him, HD, HG, HB⟩ := hrel
        clear HG0 HB0
        by_cases ce : i < m ∧ 0 < n
        · obtain ⟨ce1, ce2⟩ := ce
          obtain ⟨ad, eA, hcell⟩ := HRD.out.2.2 ce2
          subst eA
          obtain ⟨q, hq, hqn⟩ : ∃ q : Nat, (i : Int) % (n : Int) = (q : Int) ∧ q < n := ⟨i % n, by omega, Nat.mod_lt _ ce2⟩
          have hx := pw_cell_below HB.out (hcell q hqn)
          have hxr := HOK.out (L.getD q 0) (by
            have hl := HL.out
            rw [List.getD_eq_getElem?_getD, List.getElem?_eq_getElem (by omega)]
            exact List.getElem_mem _)
          have hg0 : wr.cell? ⟨W1.heap.size, i, none⟩ = some (.int .u8 (D.getD i 0)) := (blk_cell HG.out i).trans (vals_at D i (by rw [HD.out.1]; exact ce1))
          have hf0 := blk_frozen HG.out i
          have HXR := Aside0.mk hxr
          clear hcell hxr
          go_wp2_with fail
          go_roundw
          case rel => exact ⟨i + 1, D.set i (L.getD q 0), by go_num, by omega, ⟨by rw [List.length_set]; exact HD.out.1, okB_set i HD.out.2 HXR.out⟩, ⟨by rw [← vals_set]; exact blk_set HG.out i _⟩, ⟨below_set HB.out HW1.out⟩⟩
          case measure => simp [intOf]; omega
        · obtain ⟨X, hX⟩ : ∃ X : S44, X = ⟨name, false, D⟩ := ⟨_, rfl⟩
          have e0 : name = X.f0 := by rw [hX]
          have e1 : false = X.f1 := by rw [hX]
          have e2 : D.length = X.f2.length := by rw [hX]
          have hrow := Aside0.mk (rowOne X (wr.alloc (.cells #[.string name, .bool false, .slice (some ⟨W1.heap.size, 0, none⟩) m m] 44)) wr.heap.size (some ⟨W1.heap.size, 0, none⟩) m m (by rw [← e2]; exact HD.out.1) (by rw [← e0, ← e1]; exact blk_new wr _) (Nat.le_refl _) (by rw [hX]; exact C_block HD.out.1 (by omega) (blk_alloc HG.out _)))
          have HWC := Aside0.mk (fun W hC => writeC [X] (by simp) (some ⟨wr.heap.size, 0, none⟩) 1 1 rfl (Nat.le_refl _) W hC)
          have hkk : (decide ((i : Int) < (m : Int)) = true ∧ decide (0 < (n : Int)) = false ∧ decide (i < m) = true ∧ decide (0 < n) = false) ∨ (decide ((i : Int) < (m : Int)) = false ∧ decide (i < m) = false) := by
            by_cases h : i < m
            · exact .inl ⟨decide_eq_true (by omega), decide_eq_false (by omega), decide_eq_true h, decide_eq_false (by omega)⟩
            · exact .inr ⟨decide_eq_false (by omega), decide_eq_false h⟩
          clear ce e0 e1 e2
          by_cases hbad : badName name
          · have hwv : writeV [X] = ([], 10) := write_bad (by rw [hX]; exact hbad)
            rw [hwv] at HWC
            dsimp only [List.length_nil] at HWC
            clear hwv hX
            have hmem := Aside0.mk hbad
            rcases hkk with ⟨kk1, kk2, kk3, kk4⟩ | ⟨kk1, kk3⟩
            all_goals
              go_wp2_with fail
              refine (HWC.out _ hrow.out).mono ?_
              rintro e W2 ⟨A2, c2, rfl, hc2, hR2, hB2⟩
              have HB2 := Aside0.mk (below_step (below_alloc HB.out (.cells #[.string name, .bool false, .slice (some ⟨W1.heap.size, 0, none⟩) m m] 44)) hB2)
              clear hc2 hR2 hB2 HG HB hrow HWC hbad
              by_cases hs0 : name.size = 0
              · have q1 : name.toList.isEmpty = true := by rw [List.isEmpty_iff]; exact (empty_iff name).2 hs0
                have q3 : (name.toList == []) = true := by rw [beq_iff_eq]; exact (empty_iff name).2 hs0
                have HS0 := Aside0.mk hs0
                clear hs0
                go_wp2_with fail
                go_loop [11, 12] (fun v11 v12 => ∃ j : Nat, j ≤ name.size ∧ v12 = .int .i64 (j : Int) ∧ v11 = .bool true) (fun _ v12 => name.size - (intOf v12).toNat)
                case atStart => exact ⟨0, Nat.zero_le _, rfl, rfl⟩
                case round =>
                  obtain ⟨j, hj, rfl, rfl⟩ := hrel
                  by_cases hi : j < name.size
                  · go_wp2_with fail
                    go_round
                    case rel => exact ⟨j + 1, by omega, by go_num, rfl⟩
                    case measure => simp [intOf]; omega
                  · go_wp2_with fail
                    go_ret
                    exact ⟨rfl, HB2.out⟩
              · have q1 : name.toList.isEmpty = false := by
                  rw [Bool.eq_false_iff]
                  exact fun h => hs0 ((empty_iff name).1 (List.isEmpty_iff.1 h))
                have q3 : (name.toList == []) = false := by rw [beq_eq_false_iff_ne]; exact fun h => hs0 ((empty_iff name).1 h)
                by_cases hs1 : 99 < name.size
                · have q2 : decide ((99 : Int) < (name.size : Int)) = true := decide_eq_true (by omega)
                  clear hs0 hs1
                  go_wp2_with fail
                  go_loop [11, 12] (fun v11 v12 => ∃ j : Nat, j ≤ name.size ∧ v12 = .int .i64 (j : Int) ∧ v11 = .bool true) (fun _ v12 => name.size - (intOf v12).toNat)
                  case atStart => exact ⟨0, Nat.zero_le _, rfl, rfl⟩
                  case round =>
                    obtain ⟨j, hj, rfl, rfl⟩ := hrel
                    by_cases hi : j < name.size
                    · go_wp2_with fail
                      go_round
                      case rel => exact ⟨j + 1, by omega, by go_num, rfl⟩
                      case measure => simp [intOf]; omega
                    · go_wp2_with fail
                      go_ret
                      exact ⟨rfl, HB2.out⟩
                · have q2 : decide ((99 : Int) < (name.size : Int)) = false := decide_eq_false (by omega)
                  have hz := Aside0.mk ((hmem.out.resolve_left hs0).resolve_left hs1)
                  clear hs0 hs1
                  go_wp2_with fail
                  go_loop [11, 12] (fun v11 v12 => ∃ (j : Nat) (b : Bool), j ≤ name.size ∧ v12 = .int .i64 (j : Int) ∧ v11 = .bool b ∧ Aside0 (b = true ↔ (0 : UInt8) ∈ name.data.toList.take j)) (fun _ v12 => name.size - (intOf v12).toNat)
                  case atStart => exact ⟨0, false, Nat.zero_le _, rfl, rfl, ⟨by simp⟩⟩
                  case round =>
                    obtain ⟨j, b, hj, rfl, rfl, hb⟩ := hrel
                    by_cases hi : j < name.size
                    · have hjl : j < name.data.toList.length := by rw [Array.length_toList]; exact hi
                      have htk : name.data.toList.take (j + 1) = name.data.toList.take j ++ [name[j]'hi] := List.take_succ_eq_append_getElem hjl
                      have HTK := Aside0.mk htk
                      clear htk
                      cases b
                      · by_cases hx : name[j]'hi = 0
                        · have hbz : ((((name[j]'hi).toNat : Nat) : Int) == 0) = true := by rw [hx]; rfl
                          have HX := Aside0.mk hx
                          clear hx
                          go_wp2_with fail
                          go_round
                          case rel => exact ⟨j + 1, true, by omega, by go_num, rfl, ⟨by rw [HTK.out, HX.out]; simp⟩⟩
                          case measure => simp [intOf]; omega
                        · have hbz : ((((name[j]'hi).toNat : Nat) : Int) == 0) = false := by
                            rw [beq_eq_false_iff_ne]
                            intro h
                            exact hx (by rw [← UInt8.toNat_inj]; show _ = 0; omega)
                          have HX := Aside0.mk hx
                          clear hx
                          go_wp2_with fail
                          go_round
                          case rel => exact ⟨j + 1, false, by omega, by go_num, rfl, ⟨by
                            rw [HTK.out, List.mem_append]
                            constructor
                            · intro h; cases h
                            · rintro (h | h)
                              · exact hb.out.2 h
                              · exact absurd (List.mem_singleton.1 h).symm HX.out⟩⟩
                          case measure => simp [intOf]; omega
                      · go_wp2_with fail
                        go_round
                        case rel => exact ⟨j + 1, true, by omega, by go_num, rfl, ⟨⟨fun _ => by rw [HTK.out]; exact List.mem_append.2 (.inl (hb.out.1 rfl)), fun _ => rfl⟩⟩⟩
                        case measure => simp [intOf]; omega
                    · have hbt : b = true := hb.out.2 (by rw [List.take_of_length_le (by rw [Array.length_toList]; show name.size ≤ j; omega)]; exact hz.out)
                      subst hbt
                      go_wp2_with fail
                      go_ret
                      exact ⟨rfl, HB2.out⟩
          · have okx : okF X := by
              rw [hX]
              exact ⟨hbad, (fun h : badDir _ => by have h1 : false = true := h.1; cases h1), by show D.length ≤ 64000; have := HD.out.1; omega⟩
            have hmx := may_one okx
            have hwv : writeV [X] = (bodyB [X] ++ zs 1024, 0) := by unfold writeV; rw [if_pos hmx]
            have hbl : (bodyB [X] ++ zs 1024).length = 1536 + (m + 511) / 512 * 512 := by
              rw [List.length_append, bodyB_len [X] (may_ok hmx).1, zs_len, costs_cons, cost_ok (by have := okx.2.2; omega)]
              have e3 : X.f2.length = m := by rw [hX]; exact HD.out.1
              rw [e3]
              show 512 * (1 + blk m + 0) + 1024 = _
              unfold blk
              omega
            rw [hwv] at HWC
            have HRC := Aside0.mk (fun A n c hn hc W hC => readC [X] hmx A n c hn hc W hC)
            have HBL := Aside0.mk hbl
            generalize bodyB [X] ++ zs 1024 = BB at HWC HRC HBL
            dsimp only at HWC
            clear hwv hbl okx hmx
            have hs0 : ¬ name.size = 0 := fun h => hbad (.inl h)
            have hs1 : ¬ 99 < name.size := fun h => hbad (.inr (.inl h))
            have hs2 := Aside0.mk (show ¬ (0 : UInt8) ∈ name.data.toList from fun h => hbad (.inr (.inr h)))
            have q1 : name.toList.isEmpty = false := by
              rw [Bool.eq_false_iff]
              exact fun h => hs0 ((empty_iff name).1 (List.isEmpty_iff.1 h))
            have q2 : decide ((99 : Int) < (name.size : Int)) = false := decide_eq_false (by omega)
            have q3 : (name.toList == []) = false := by rw [beq_eq_false_iff_ne]; exact fun h => hs0 ((empty_iff name).1 h)
            clear hbad
            rcases hkk with ⟨kk1, kk2, kk3, kk4⟩ | ⟨kk1, kk3⟩
            all_goals
              go_wp2_with fail
              refine (HWC.out _ hrow.out).mono ?_
              rintro e W2 ⟨A2, c2, rfl, hc2, hR2, hB2⟩
              have HB2 := Aside0.mk (below_step (below_alloc HB.out (.cells #[.string name, .bool false, .slice (some ⟨W1.heap.size, 0, none⟩) m m] 44)) hB2)
              have HG2 := Aside0.mk (blk_below (blk_alloc HG.out (.cells #[.string name, .bool false, .slice (some ⟨W1.heap.size, 0, none⟩) m m] 44)) hB2)
              have HC2 := Aside0.mk (Kd.R_reads' hR2).2.2
              have HCL2 := Aside0.mk hc2
              clear hc2 hR2 hB2 HG HB hrow HWC
              go_wp2_with fail
              go_loop [11, 12] (fun v11 v12 => ∃ j : Nat, j ≤ name.size ∧ v12 = .int .i64 (j : Int) ∧ v11 = .bool false) (fun _ v12 => name.size - (intOf v12).toNat)
              case atStart => exact ⟨0, Nat.zero_le _, rfl, rfl⟩
              case round =>
                obtain ⟨j, hj, rfl, rfl⟩ := hrel
                by_cases hi : j < name.size
                · have hbz : ((((name[j]'hi).toNat : Nat) : Int) == 0) = false := by
                    rw [beq_eq_false_iff_ne]
                    intro h
                    apply hs2.out
                    have h2 : name[j]'hi = 0 := by rw [← UInt8.toNat_inj]; show _ = 0; omega
                    rw [← h2]
                    exact List.getElem_mem (l := name.data.toList) (by rw [Array.length_toList]; exact hi)
                  go_wp2_with fail
                  go_round
                  case rel => exact ⟨j + 1, by omega, by go_num, rfl⟩
                  case measure => simp [intOf]; omega
                · go_wp2_with fail
                  refine (HRC.out A2 BB.length c2 rfl HCL2.out _ HC2.out).mono ?_
                  rintro e W3 ⟨A3, c3, rfl, hc3, hC3, hB3⟩
                  have hg3 := blk_below HG2.out hB3
                  have HB3 := Aside0.mk (below_step HB2.out hB3)
                  have hl1 : [X].length = 1 := rfl
                  rw [hl1] at hC3 ⊢
                  obtain ⟨ad, Ad, cd, eA, x0, x1, x2, l2, g2⟩ := at_T44 hC3 0 (by omega) (by omega)
                  subst eA
                  have eX : rd_T44 [X] 0 = X := rfl
                  rw [eX] at x0 x1 x2 l2 g2
                  rw [hX] at x0 x1 x2 l2 g2
                  have hcv1 := fun n_ : Nat => Kd.C_string (P := Tryd.prog) (w := W3.drewN n_) (A := Ad) (c := cd) Tryd.underlying25 Tryd.underlying5 Tryd.underlying9 g2
                  have hcv2 := fun n_ : Nat => Kd.C_string (P := Tryd.prog) (w := W3.drewN n_) (A := some ⟨W1.heap.size, 0, none⟩) (c := m) Tryd.underlying25 Tryd.underlying5 Tryd.underlying9 (C_block HD.out.1 (by omega) hg3)
                  have hq : decide (BB.length = 1536 + (m + 511) / 512 * 512) = true := decide_eq_true HBL.out
                  clear hg3 hC3 hB3 g2 hX
                  rw [show ((0 : Int)).toNat = 0 from rfl, show 0 * 3 = 0 from rfl, Addr.add_zero'] at x0 x1 x2
                  have hm0 : 0 ≤ (m : Int) := by omega
                  have hm3 : (m : Int) ≤ 3000 := by omega
                  have hbI : ((BB.length : Int) == 1536 + ((m : Int) + 511) / 512 * 512) = true := by rw [beq_iff_eq]; have := HBL.out; omega
                  have hbT : ((BB.length : Int) == 1536 + Int.tdiv ((m : Int) + 511) 512 * 512) = true := by rw [Int.tdiv_eq_ediv_of_nonneg (by omega)]; exact hbI
                  have hw1 : IntKind.i64.wrap ((m : Int) + 511) = (m : Int) + 511 := by rw [IntKind.wrap_i64]; omega
                  have hw2 : IntKind.i64.wrap (Int.tdiv ((m : Int) + 511) 512) = Int.tdiv ((m : Int) + 511) 512 := by rw [Int.tdiv_eq_ediv_of_nonneg (by omega), IntKind.wrap_i64]; omega
                  have hw3 : IntKind.i64.wrap (Int.tdiv ((m : Int) + 511) 512 * 512) = Int.tdiv ((m : Int) + 511) 512 * 512 := by rw [Int.tdiv_eq_ediv_of_nonneg (by omega), IntKind.wrap_i64]; omega
                  have hw4 : IntKind.i64.wrap (1536 + Int.tdiv ((m : Int) + 511) 512 * 512) = 1536 + Int.tdiv ((m : Int) + 511) 512 * 512 := by rw [Int.tdiv_eq_ediv_of_nonneg (by omega), IntKind.wrap_i64]; omega
                  have hzl : decide (0 < [X].length) = true := rfl
                  go_wp2_with fail
                  go_quiet (fail)
                  go_wp2_with fail
                  go_ret
                  exact ⟨rfl, pw_below_drewN HB3.out _⟩
end Go.Proofs.YtlnogacjebbepaaDoor.H
