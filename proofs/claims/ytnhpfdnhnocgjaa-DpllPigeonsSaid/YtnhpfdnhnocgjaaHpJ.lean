/- Joined by a program of this session out of: HpG, HpH, HpI, HpJ. -/
import Derived.Test.YtnhpfdnhnocgjaaHpF
import Derived.Test.YtnhpfdnhnocgjaaDpE
import Derived.StillTailTactics
/- fail: walked over the relation. -/
namespace Go.Proofs.Ytnhpfdnhnocgjaa.S
open Go.RowKit Go.Proofs.Ytnhpfdnhnocgjaa.D Go.Proofs.YtnhpfdnhnocgjaaW.PrintWords Go.Proofs.YtnhpfdnhnocgjaaW.PrintLast Go.Proofs.YtnhpfdnhnocgjaaW.PrintMore
set_option linter.unusedVariables false
set_option linter.unusedSimpArgs false
def FailP (w : World) (ow : Nat → Option Role) (B : Nat) (st : St) (v : Int) (e : Ending) (w' : World) : Prop := ∃ st' b ow', e = .returned (.bool b) ∧ FE st v st' b ∧ Fr ow ow' w w' ∧ Rep w' ow' B st'
set_option maxRecDepth 100000 in
set_option maxHeartbeats 8000000 in
theorem fail42 {w : World} {ow : Nat → Option Role} {B : Nat} {st : St} (hR : Rep w ow B st) (hT : Tr st) (hW : Wa st) (hb : Bd st) {v : Int} (hv : okL st.n v) (hvt : -v ∈ st.trail) :
    Calls Try.prog 42 #[.pointer (some ⟨B, 0, none⟩), .int .i64 v] w (FailP w ow B st v) := by
  have HA : Aside0 (∀ W : World, Calls Try.prog 41 #[.int .i64 v] W fun e w' => e = .returned (.int .i64 (pl v : Int)) ∧ w' = W) := ⟨fun W => (at41 v st.n hb.n hv W).mono fun e w' h => ⟨h.1, h.2.symm⟩⟩
  obtain ⟨vf, vi, vv, vs, vt, fs, is, h⟩ := hR
  have hpl : pl v < st.inn.length := by rw [hW.hi]; exact pl_lt hv
  obtain ⟨gi, ci, ⟨A, n, c⟩, rfl, ogi, hs, hsn, hO, x1, f1⟩ := h.liAt hpl
  replace hsn : (st.row v).length = n := hsn.symm
  replace x1 : w.cell? ⟨gi, pl v, none⟩ = some (.slice A n c) := x1
  have c2 := (cells51 h).2.2.1
  have HLF := Aside0.mk (LF.start h hT hW hv hs hsn)
  have HP := Aside0.mk (And.intro hT (And.intro hW (And.intro hb (And.intro hv hvt))))
  have hnc : n ≤ c := by
    have := (Kd.R_reads' (show Kd.R (Kd.int .i64) 3 w 0 _ (.slice A n c) _ from hO)).2.1
    exact this
  have hn16 : n ≤ 5864062014804 := by rw [← hsn]; have := hW.rowlen hv; have := hb.m; omega
  obtain ⟨k, hk⟩ : ∃ k, pl v = k := ⟨_, rfl⟩
  have HK := Aside0.mk hk
  rw [hk] at HA x1 hpl
  obtain ⟨ni, hni⟩ : ∃ ni, st.inn.length = ni := ⟨_, rfl⟩
  rw [hni] at c2 hpl
  have p1 : (k : Int) < (ni : Int) := by omega
  have p0 : (0 : Int) ≤ (k : Int) := by omega
  have d1 : decide ((k : Int) < (ni : Int)) = true := decide_eq_true p1
  have d0 : decide ((0 : Int) ≤ (k : Int)) = true := decide_eq_true p0
  clear hT hW hb hv hvt hsn hs hO h hk hni f1 ogi
  go_enter Try.func42, Try.ntmps42
  go_wp2
  go_quiet ((go_at_call 41; exact Calls.quiet_of_same (HA.out _)))
  go_wp2
  have HS0 : Aside0 (LoopF w ow B st v A n c 0 0 true (w.drewN nq)) := ⟨by
    have hl := HLF.out
    exact ⟨_, _, _, _, _, _, _, _, _, _, _, _, hl.fi, hl.k1, hl.k2, hl.pn, hl.ml, hl.mt, hl.md, hl.rp.below (bd_drewN w nq), hl.ia, Fr.of_below (bd_drewN w nq)⟩⟩
  obtain ⟨w1, hw1⟩ : ∃ w1, w.drewN nq = w1 := ⟨_, rfl⟩
  rw [hw1] at HS0 ⊢
  clear hw1 HLF
  go_loopw [6, 7, 25] (fun v6 v7 v25 wr => ∃ (p kk : Nat) (well : Bool), v25 = .int .i64 (p : Int) ∧ v6 = .slice A kk c ∧ v7 = .bool well ∧ p ≤ n ∧ kk ≤ p ∧ Aside0 (LoopF w ow B st v A n c p kk well wr)) (fun _ _ v25 _ => n - (intOf v25).toNat)
  case atStart => exact ⟨0, 0, true, rfl, rfl, rfl, Nat.zero_le _, Nat.zero_le _, HS0⟩
  case round =>
    obtain ⟨p, kk, well, rfl, rfl, rfl, hpn, hkp, HL⟩ := hrel
    by_cases hp : p < n
    · obtain ⟨st1, kept, rest, M, ow1, vf, vi, vv, vs, vt, fs, is, hL⟩ := HL.out
      obtain ⟨i, hi, rfl⟩ := hL.restAt hp
      obtain ⟨cl, hcl, hC, hwt⟩ := hL.fi.mem HP.out.2.2.2.1
      have hC2 := hC.two
      have hClen : cl.length ≤ 65536 := by have := hC.len; rw [hL.fi.n] at this; have := HP.out.2.2.1.n; omega
      have hil := lt_of hcl
      obtain ⟨s, hs⟩ : ∃ s, fs[i]? = some s := ⟨_, List.getElem?_eq_getElem (by rw [hL.rp.fl]; exact hil)⟩
      obtain ⟨gA, cA, hA, oA, lA, _⟩ := (hL.rp.ic (pl v) _ M hL.ia (hL.innAt HP.out.2.2.2.1)).intCell (by rw [ints_length, hL.ml]; omega)
      have hA' : A = some ⟨gA, 0, none⟩ := by injection hA
      subst hA'
      obtain ⟨gf, cf, rfl, ogf, _, cellf⟩ := hL.rp.f.slCell (by have := lt_of hs; omega)
      obtain ⟨gc, cc, hsv, ogc, _, _⟩ := (hL.rp.fc i s cl hs hcl).intCell (by omega)
      have y0 := (hL.rp.liCell hL.ia (hL.innAt HP.out.2.2.2.1) (g := gA) (n := n) (cap := c) rfl hi).1
      have y1 := (cells51 hL.rp).2.1
      have y2 := (cellf i s hs).1
      rw [hsv] at y2
      obtain ⟨a0, ha0⟩ : ∃ x, cl[0]? = some x := ⟨_, List.getElem?_eq_getElem (by omega)⟩
      obtain ⟨a1, ha1⟩ : ∃ x, cl[1]? = some x := ⟨_, List.getElem?_eq_getElem (by omega)⟩
      obtain ⟨z0, e0⟩ := hL.rp.clCell hs hcl hsv ha0
      obtain ⟨z1, e1⟩ := hL.rp.clCell hs hcl hsv ha1
      obtain ⟨nl, hnl⟩ : ∃ nl, cl.length = nl := ⟨_, rfl⟩
      obtain ⟨nf, hnf⟩ : ∃ nf, fs.length = nf := ⟨_, rfl⟩
      have hin : i < nf := by rw [← hnf]; exact lt_of hs
      rw [hnl] at y2 hC2 hClen hsv
      rw [hnf] at y1
      have HSV := Aside0.mk hsv
      have q1 : decide ((p : Int) < (n : Int)) = true := decide_eq_true (by omega)
      have q2 : decide (p < n) = true := decide_eq_true hp
      have q3 : (0 : Int) ≤ (p : Int) := by omega
      have q4 : (p : Int) < (n : Int) := by omega
      have q5 : (0 : Int) ≤ (i : Int) := by omega
      have q6 : (i : Int) < (nf : Int) := by omega
      have q7 : (0 : Int) < (nl : Int) := by omega
      have q8 : (1 : Int) < (nl : Int) := by omega
      have q9 : 0 < nl := by omega
      have q10 : 1 < nl := by omega
      by_cases hav : a0 = v
      · have sw1 := hL.rp.swap hs hcl (n := nl) (cap := cc) HSV.out 0 1
        rw [getD_of ha0, getD_of ha1] at sw1
        have HM := Aside0.mk ((hL.midSwap hp rfl hcl (hav ▸ ha0) ha1 hs sw1.1 sw1.2).below (bd_drew _))
        have qv : (a0 == v) = true := by simpa using hav
        rw [hav] at z0
        have n01 : (0 : Nat) ≠ 1 := by decide
        obtain ⟨wx, hwx⟩ : ∃ wx, ((wr.setCell ⟨gc, 0, none⟩ (.int .i64 a1)).setCell ⟨gc, 1, none⟩ (.int .i64 a0)).drew = wx := ⟨_, rfl⟩
        rw [hwx] at HM
        rw [hav] at hwx
        clear hL hcl hC hs ha0 ha1 hnl hwt hil hi oA lA ogf cellf ogc hsv sw1 hnf qv hav a0
        go_wp2_with fail
        go_region
        try rw [hwx]
        have z0 := HM.out.c0 HSV.out
        clear hwx
        go_wp2_with fail
        obtain ⟨stY, clY, HM⟩ : ∃ stY clY, Aside0 (MF w ow B st v (some ⟨gA, 0, none⟩) n c p kk well wx stY kept (M.drop (p + 1)) M ow1 (.slice (some ⟨gf, 0, none⟩) fs.length cf) vi vv vs vt fs is i s clY a1) := ⟨_, _, HM⟩
        have HI : Aside0 (Calls Try.prog 40 #[.pointer (some ⟨B, 0, none⟩), .int .i64 a1] wx fun e w' => e = .returned (.tuple #[.bool (stY.on a1), .bool (stY.known a1)]) ∧ Drawn0 wx w') := ⟨HM.out.isA HP.out.2.2.1⟩
        obtain ⟨on, hon⟩ : ∃ b, stY.on a1 = b := ⟨_, rfl⟩
        obtain ⟨kn, hkn⟩ : ∃ b, stY.known a1 = b := ⟨_, rfl⟩
        rw [hon, hkn] at HI
        have HB := Aside0.mk (And.intro hkn hon)
        clear hon hkn
        go_at_call 40
        refine HI.out.mono ?_
        rintro e w2 ⟨rfl, hd⟩
        have HM2 := Aside0.mk (HM.out.below hd.below)
        clear hd HI
        have hroom : kk + 1 ≤ c := by omega
        cases well
        · obtain ⟨u3, ra, rf⟩ := HM2.out.slot HP.out.2.2.2.1 (g := gA) rfl
          have HK3 := Aside0.mk (HM2.out.put HP.out.2.2.2.1 (g := gA) rfl)
          go_wp2_with (at_builtin; refine app_room rfl (.tmp 78) (.tmp 80) rfl gA kk c (i : Int) rfl rfl hroom ra rf ?_)
          all_goals
            go_roundw
            case rel => exact ⟨p + 1, kk + 1, false, by go_num, rfl, rfl, by omega, by omega, ⟨HK3.out.end0⟩⟩
            case measure => simp [intOf]; omega
        · by_cases hko : kn = true ∧ on = true
          · obtain ⟨rfl, rfl⟩ := hko
            obtain ⟨u3, ra, rf⟩ := HM2.out.slot HP.out.2.2.2.1 (g := gA) rfl
            have HK3 := Aside0.mk (HM2.out.put HP.out.2.2.2.1 (g := gA) rfl)
            have t0 := HK3.out.c0 HSV.out
            have hnd := HK3.out.need HP.out.2.2.1
            rw [HB.out.1, HB.out.2] at hnd
            have HND := Aside0.mk hnd
            clear hnd
            go_wp2_with (first
              | (at_builtin; refine app_room rfl (.tmp 78) (.tmp 80) rfl gA kk c (i : Int) rfl rfl hroom ra rf ?_)
              | (go_at_call 26; refine HND.out.mono ?_; rintro e w4 ⟨rfl, ht⟩; have HT4 := Aside0.mk ht; clear ht))
            all_goals
              go_roundw
              case rel => exact ⟨p + 1, kk + 1, true, by go_num, rfl, rfl, by omega, by omega, ⟨HK3.out.end1 HB.out.1 HB.out.2 (by rw [HB.out.1]; exact HT4.out)⟩⟩
              case measure => simp [intOf]; omega
          · have HOT := Aside0.mk (HM2.out.other HP.out.2.2.1)
            have hot := HOT.out
            rw [HSV.out] at hot
            have HOT2 := Aside0.mk hot
            have HKO := Aside0.mk hko
            clear hot HOT
            have hor : (kn = false) ∨ (kn = true ∧ on = false) := by
              cases kn
              · exact .inl rfl
              · cases on
                · exact .inr ⟨rfl, rfl⟩
                · exact absurd ⟨rfl, rfl⟩ hko
            clear hko
            rcases hor with rfl | ⟨rfl, rfl⟩
            all_goals
              go_wp2_with fail
              go_at_call 47
              refine HOT2.out.mono ?_
              rintro e w3 hop
              rcases hop with ⟨rfl, hF, hb3⟩ | ⟨j, x, rfl, hj2, hxj, hxo, hch, hr3⟩
            · skip
              have HM3 := Aside0.mk (HM2.out.below hb3)
              have HF3 := Aside0.mk hF
              clear hb3 hF
              obtain ⟨u3, ra, rf⟩ := HM3.out.slot HP.out.2.2.2.1 (g := gA) rfl
              have HK3 := Aside0.mk (HM3.out.put HP.out.2.2.2.1 (g := gA) rfl)
              have t0 := HK3.out.c0 HSV.out
              have hnd := HK3.out.need HP.out.2.2.1
              rw [HB.out.1] at hnd
              have HND := Aside0.mk hnd
              clear hnd
              go_wp2_with (first
                | (at_builtin; refine app_room rfl (.tmp 78) (.tmp 80) rfl gA kk c (i : Int) rfl rfl hroom ra rf ?_)
                | (go_at_call 26; refine HND.out.mono ?_; rintro e w4 ⟨rfl, ht⟩; have HT4 := Aside0.mk ht; clear ht))
              all_goals
                go_roundw
                case rel => exact ⟨p + 1, kk + 1, true, by go_num, rfl, rfl, by omega, by omega, ⟨HK3.out.end3 HP.out.2.2.2.2 HF3.out HB.out.1 (by rw [HB.out.1]; exact HT4.out)⟩⟩
                case measure => simp [intOf]; omega
            · skip
              have HWT := Aside0.mk (HM2.out.watch HP.out.2.2.1 HP.out.2.2.2.1 hj2 hxj hr3)
              have t1 := moved_c1 hr3 HM2.out.hc HM2.out.hs hj2 hxj HSV.out
              have HX3 := Aside0.mk (And.intro hj2 (And.intro hxj (And.intro hxo hch.fr)))
              clear hr3 hj2 hxj hxo hch
              go_wp2_with (go_at_call 27; refine HWT.out.mono ?_; rintro e w4 ⟨rfl, ht⟩; have HT4 := Aside0.mk ht; clear ht)
              all_goals
                go_roundw
                case rel => exact ⟨p + 1, kk, true, by go_num, rfl, rfl, by omega, by omega, ⟨HM2.out.moved HP.out.2.2.2.1 HP.out.2.2.2.2 HX3.out.1 HX3.out.2.1 HX3.out.2.2.1 HX3.out.2.2.2 HT4.out⟩⟩
                case measure => simp [intOf]; omega
            · skip
              have HM3 := Aside0.mk (HM2.out.below hb3)
              have HF3 := Aside0.mk hF
              clear hb3 hF
              obtain ⟨u3, ra, rf⟩ := HM3.out.slot HP.out.2.2.2.1 (g := gA) rfl
              have HK3 := Aside0.mk (HM3.out.put HP.out.2.2.2.1 (g := gA) rfl)
              have t0 := HK3.out.c0 HSV.out
              have hnd := HK3.out.need HP.out.2.2.1
              rw [HB.out.1, HB.out.2] at hnd
              have HND := Aside0.mk hnd
              clear hnd
              go_wp2_with (first
                | (at_builtin; refine app_room rfl (.tmp 78) (.tmp 80) rfl gA kk c (i : Int) rfl rfl hroom ra rf ?_)
                | (go_at_call 26; refine HND.out.mono ?_; rintro e w4 ⟨rfl, ht⟩; have HT4 := Aside0.mk ht; clear ht))
              all_goals
                go_roundw
                case rel => exact ⟨p + 1, kk + 1, false, by go_num, rfl, rfl, by omega, by omega, ⟨HK3.out.end2 HP.out.2.2.2.2 HF3.out HB.out.1 HB.out.2 (by rw [HB.out.1]; exact HT4.out)⟩⟩
                case measure => simp [intOf]; omega
            · skip
              have HWT := Aside0.mk (HM2.out.watch HP.out.2.2.1 HP.out.2.2.2.1 hj2 hxj hr3)
              have t1 := moved_c1 hr3 HM2.out.hc HM2.out.hs hj2 hxj HSV.out
              have HX3 := Aside0.mk (And.intro hj2 (And.intro hxj (And.intro hxo hch.fr)))
              clear hr3 hj2 hxj hxo hch
              go_wp2_with (go_at_call 27; refine HWT.out.mono ?_; rintro e w4 ⟨rfl, ht⟩; have HT4 := Aside0.mk ht; clear ht)
              all_goals
                go_roundw
                case rel => exact ⟨p + 1, kk, true, by go_num, rfl, rfl, by omega, by omega, ⟨HM2.out.moved HP.out.2.2.2.1 HP.out.2.2.2.2 HX3.out.1 HX3.out.2.1 HX3.out.2.2.1 HX3.out.2.2.2 HT4.out⟩⟩
                case measure => simp [intOf]; omega
      · have hav1 : a1 = v := by
          rcases hwt with h | h
          · rw [ha0] at h; injection h with h; exact absurd h hav
          · rw [ha1] at h; injection h
        rw [hav1] at ha1 z1
        have HM := Aside0.mk (hL.mid hp rfl hcl ha0 ha1 hs)
        have qv : (a0 == v) = false := by simpa using hav
        clear hL hcl hC hs ha0 ha1 hnl hwt hil hi oA lA ogf cellf ogc hsv hnf hav1
        go_wp2_with fail
        obtain ⟨stY, clY, HM⟩ : ∃ stY clY, Aside0 (MF w ow B st v (some ⟨gA, 0, none⟩) n c p kk well wr stY kept (M.drop (p + 1)) M ow1 (.slice (some ⟨gf, 0, none⟩) fs.length cf) vi vv vs vt fs is i s clY a0) := ⟨_, _, HM⟩
        have HI : Aside0 (Calls Try.prog 40 #[.pointer (some ⟨B, 0, none⟩), .int .i64 a0] wr fun e w' => e = .returned (.tuple #[.bool (stY.on a0), .bool (stY.known a0)]) ∧ Drawn0 wr w') := ⟨HM.out.isA HP.out.2.2.1⟩
        obtain ⟨on, hon⟩ : ∃ b, stY.on a0 = b := ⟨_, rfl⟩
        obtain ⟨kn, hkn⟩ : ∃ b, stY.known a0 = b := ⟨_, rfl⟩
        rw [hon, hkn] at HI
        have HB := Aside0.mk (And.intro hkn hon)
        clear hon hkn
        go_at_call 40
        refine HI.out.mono ?_
        rintro e w2 ⟨rfl, hd⟩
        have HM2 := Aside0.mk (HM.out.below hd.below)
        clear hd HI
        have hroom : kk + 1 ≤ c := by omega
        cases well
        · obtain ⟨u3, ra, rf⟩ := HM2.out.slot HP.out.2.2.2.1 (g := gA) rfl
          have HK3 := Aside0.mk (HM2.out.put HP.out.2.2.2.1 (g := gA) rfl)
          go_wp2_with (at_builtin; refine app_room rfl (.tmp 78) (.tmp 80) rfl gA kk c (i : Int) rfl rfl hroom ra rf ?_)
          all_goals
            go_roundw
            case rel => exact ⟨p + 1, kk + 1, false, by go_num, rfl, rfl, by omega, by omega, ⟨HK3.out.end0⟩⟩
            case measure => simp [intOf]; omega
        · by_cases hko : kn = true ∧ on = true
          · obtain ⟨rfl, rfl⟩ := hko
            obtain ⟨u3, ra, rf⟩ := HM2.out.slot HP.out.2.2.2.1 (g := gA) rfl
            have HK3 := Aside0.mk (HM2.out.put HP.out.2.2.2.1 (g := gA) rfl)
            have t0 := HK3.out.c0 HSV.out
            have hnd := HK3.out.need HP.out.2.2.1
            rw [HB.out.1, HB.out.2] at hnd
            have HND := Aside0.mk hnd
            clear hnd
            go_wp2_with (first
              | (at_builtin; refine app_room rfl (.tmp 78) (.tmp 80) rfl gA kk c (i : Int) rfl rfl hroom ra rf ?_)
              | (go_at_call 26; refine HND.out.mono ?_; rintro e w4 ⟨rfl, ht⟩; have HT4 := Aside0.mk ht; clear ht))
            all_goals
              go_roundw
              case rel => exact ⟨p + 1, kk + 1, true, by go_num, rfl, rfl, by omega, by omega, ⟨HK3.out.end1 HB.out.1 HB.out.2 (by rw [HB.out.1]; exact HT4.out)⟩⟩
              case measure => simp [intOf]; omega
          · have HOT := Aside0.mk (HM2.out.other HP.out.2.2.1)
            have hot := HOT.out
            rw [HSV.out] at hot
            have HOT2 := Aside0.mk hot
            have HKO := Aside0.mk hko
            clear hot HOT
            have hor : (kn = false) ∨ (kn = true ∧ on = false) := by
              cases kn
              · exact .inl rfl
              · cases on
                · exact .inr ⟨rfl, rfl⟩
                · exact absurd ⟨rfl, rfl⟩ hko
            clear hko
            rcases hor with rfl | ⟨rfl, rfl⟩
            all_goals
              go_wp2_with fail
              go_at_call 47
              refine HOT2.out.mono ?_
              rintro e w3 hop
              rcases hop with ⟨rfl, hF, hb3⟩ | ⟨j, x, rfl, hj2, hxj, hxo, hch, hr3⟩
            · skip
              have HM3 := Aside0.mk (HM2.out.below hb3)
              have HF3 := Aside0.mk hF
              clear hb3 hF
              obtain ⟨u3, ra, rf⟩ := HM3.out.slot HP.out.2.2.2.1 (g := gA) rfl
              have HK3 := Aside0.mk (HM3.out.put HP.out.2.2.2.1 (g := gA) rfl)
              have t0 := HK3.out.c0 HSV.out
              have hnd := HK3.out.need HP.out.2.2.1
              rw [HB.out.1] at hnd
              have HND := Aside0.mk hnd
              clear hnd
              go_wp2_with (first
                | (at_builtin; refine app_room rfl (.tmp 78) (.tmp 80) rfl gA kk c (i : Int) rfl rfl hroom ra rf ?_)
                | (go_at_call 26; refine HND.out.mono ?_; rintro e w4 ⟨rfl, ht⟩; have HT4 := Aside0.mk ht; clear ht))
              all_goals
                go_roundw
                case rel => exact ⟨p + 1, kk + 1, true, by go_num, rfl, rfl, by omega, by omega, ⟨HK3.out.end3 HP.out.2.2.2.2 HF3.out HB.out.1 (by rw [HB.out.1]; exact HT4.out)⟩⟩
                case measure => simp [intOf]; omega
            · skip
              have HWT := Aside0.mk (HM2.out.watch HP.out.2.2.1 HP.out.2.2.2.1 hj2 hxj hr3)
              have t1 := moved_c1 hr3 HM2.out.hc HM2.out.hs hj2 hxj HSV.out
              have HX3 := Aside0.mk (And.intro hj2 (And.intro hxj (And.intro hxo hch.fr)))
              clear hr3 hj2 hxj hxo hch
              go_wp2_with (go_at_call 27; refine HWT.out.mono ?_; rintro e w4 ⟨rfl, ht⟩; have HT4 := Aside0.mk ht; clear ht)
              all_goals
                go_roundw
                case rel => exact ⟨p + 1, kk, true, by go_num, rfl, rfl, by omega, by omega, ⟨HM2.out.moved HP.out.2.2.2.1 HP.out.2.2.2.2 HX3.out.1 HX3.out.2.1 HX3.out.2.2.1 HX3.out.2.2.2 HT4.out⟩⟩
                case measure => simp [intOf]; omega
            · skip
              have HM3 := Aside0.mk (HM2.out.below hb3)
              have HF3 := Aside0.mk hF
              clear hb3 hF
              obtain ⟨u3, ra, rf⟩ := HM3.out.slot HP.out.2.2.2.1 (g := gA) rfl
              have HK3 := Aside0.mk (HM3.out.put HP.out.2.2.2.1 (g := gA) rfl)
              have t0 := HK3.out.c0 HSV.out
              have hnd := HK3.out.need HP.out.2.2.1
              rw [HB.out.1, HB.out.2] at hnd
              have HND := Aside0.mk hnd
              clear hnd
              go_wp2_with (first
                | (at_builtin; refine app_room rfl (.tmp 78) (.tmp 80) rfl gA kk c (i : Int) rfl rfl hroom ra rf ?_)
                | (go_at_call 26; refine HND.out.mono ?_; rintro e w4 ⟨rfl, ht⟩; have HT4 := Aside0.mk ht; clear ht))
              all_goals
                go_roundw
                case rel => exact ⟨p + 1, kk + 1, false, by go_num, rfl, rfl, by omega, by omega, ⟨HK3.out.end2 HP.out.2.2.2.2 HF3.out HB.out.1 HB.out.2 (by rw [HB.out.1]; exact HT4.out)⟩⟩
                case measure => simp [intOf]; omega
            · skip
              have HWT := Aside0.mk (HM2.out.watch HP.out.2.2.1 HP.out.2.2.2.1 hj2 hxj hr3)
              have t1 := moved_c1 hr3 HM2.out.hc HM2.out.hs hj2 hxj HSV.out
              have HX3 := Aside0.mk (And.intro hj2 (And.intro hxj (And.intro hxo hch.fr)))
              clear hr3 hj2 hxj hxo hch
              go_wp2_with (go_at_call 27; refine HWT.out.mono ?_; rintro e w4 ⟨rfl, ht⟩; have HT4 := Aside0.mk ht; clear ht)
              all_goals
                go_roundw
                case rel => exact ⟨p + 1, kk, true, by go_num, rfl, rfl, by omega, by omega, ⟨HM2.out.moved HP.out.2.2.2.1 HP.out.2.2.2.2 HX3.out.1 HX3.out.2.1 HX3.out.2.2.1 HX3.out.2.2.2 HT4.out⟩⟩
                case measure => simp [intOf]; omega
    · have ep : p = n := by omega
      subst ep
      obtain ⟨st1, kept, rest, M, ow1, vf, vi, vv, vs, vt, fs, is, hL⟩ := HL.out
      have hrest : rest = [] := by rw [← hL.md]; exact List.drop_eq_nil_of_le (by rw [hL.ml]; exact Nat.le_refl _)
      subst hrest
      have hk1 : k < st1.inn.length := by rw [hL.fi.wa.hi, hL.fi.n, ← HK.out]; exact pl_lt HP.out.2.2.2.1
      have HK1 : k < is.length := by rw [hL.rp.il]; show k < (st1.inn.set _ _).length; rw [List.length_set]; exact hk1
      obtain ⟨g2, c2', rfl, og2, l2, cell2⟩ := hL.rp.i.slCell (by omega)
      have y2 := (cells51 hL.rp).2.2.1
      have hia : is[k]? = some ⟨A, p, c⟩ := by rw [← HK.out]; exact hL.ia
      obtain ⟨x2, f2⟩ := cell2 k _ hia
      replace x2 : wr.cell? ⟨g2, k, none⟩ = some (.slice A p c) := x2
      obtain ⟨n2, hn2⟩ : ∃ n2, is.length = n2 := ⟨_, rfl⟩
      rw [hn2] at y2 HK1
      have HLX := Aside0.mk (And.intro hL (And.intro og2 hn2))
      have hfr : ∀ u : Value, (wr.setCell ⟨g2, k, none⟩ u).cell? ⟨B, 2, none⟩ = some (.slice (some ⟨g2, 0, none⟩) n2 c2') := fun u => by
        have hb2 := box_chg hL.rp.box hL.rp.bo (Chg.set og2 k u) (by simp)
        rw [← hn2]
        exact (blk_cell hb2.1 2).trans rfl
      have HFR := Aside0.mk hfr
      have r1 : (k : Int) < (n2 : Int) := by omega
      have r0 : (0 : Int) ≤ (k : Int) := by omega
      have hgB : B ≠ g2 := fun e => by rw [← e, hL.rp.bo] at og2; cases og2
      clear hL hk1 og2 cell2 hia hn2 hfr HK1 x1 c2 p1 p0 d1 d0 hpl
      go_wp2
      go_region_held3 (fun W => W.cell? ⟨B, 2, none⟩ = some (.slice (some ⟨g2, 0, none⟩) n2 c2'))
        (first
          | exact HFR.out _
          | exact y2)
        (first
          | (go_at_call 41; refine (HA.out _).mono ?_; rintro e w' ⟨rfl, rfl⟩))
      all_goals go_wp2
      all_goals
        go_ret
        obtain ⟨hfe, ow', hf, hr⟩ := HLX.out.1.last HP.out.2.2.2.1 rfl
        rw [HK.out] at hf hr
        exact ⟨st1, well, ow', rfl, hfe, hf, hr⟩
end Go.Proofs.Ytnhpfdnhnocgjaa.S
/- propagate: walked over the relation. -/
namespace Go.Proofs.Ytnhpfdnhnocgjaa.S
open Go.RowKit Go.Proofs.Ytnhpfdnhnocgjaa.D Go.Proofs.YtnhpfdnhnocgjaaW.PrintWords Go.Proofs.YtnhpfdnhnocgjaaW.PrintLast Go.Proofs.YtnhpfdnhnocgjaaW.PrintMore
set_option linter.unusedVariables false
set_option linter.unusedSimpArgs false
def PropP (w : World) (ow : Nat → Option Role) (B : Nat) (st : St) (e : Ending) (w' : World) : Prop := ∃ st' r ow', e = .returned (.bool r) ∧ PE st st' r ∧ Fr ow ow' w w' ∧ Rep w' ow' B st'
def LoopP (w0 : World) (ow0 : Nat → Option Role) (B : Nat) (st0 : St) (m : Nat) (wr : World) : Prop := ∃ st ow vf vi vv vs vt fs is, PI st0 st ∧ Fr ow0 ow w0 wr ∧ Rp wr ow B st vf vi vv vs vt fs is ∧ m + st.head = st.n
set_option maxRecDepth 100000 in
set_option maxHeartbeats 4000000 in
theorem propagate28 {w : World} {ow : Nat → Option Role} {B : Nat} {st : St} (hR : Rep w ow B st) (hT : Tr st) (hW : Wa st) (hb : Bd st) (hh : st.head ≤ st.trail.length) :
    Calls Try.prog 28 #[.pointer (some ⟨B, 0, none⟩)] w (PropP w ow B st) := by
  obtain ⟨vf, vi, vv, vs, vt, fs, is, h⟩ := hR
  have hlen := hT.len
  have HL0 : Aside0 (LoopP w ow B st (st.n - st.head) w) := ⟨st, ow, vf, vi, vv, vs, vt, fs, is, PI.start hT hW hh, Fr.refl _ _, h, by omega⟩
  obtain ⟨m0, hm0⟩ : ∃ m, st.n - st.head = m := ⟨_, rfl⟩
  rw [hm0] at HL0
  have HBD := Aside0.mk hb
  clear h hT hW hb hh hlen hm0
  go_enter Try.func28, Try.ntmps28
  go_wp2
  go_loopg [] m0 (fun kq wr => Aside0 (LoopP w ow B st kq wr))
  case atStart => exact HL0
  case round =>
    obtain ⟨st1, ow1, vf, vi, vv, vs, vt, fs, is, hPI, hFr, hRp, hm⟩ := hrel.out
    have HPI := Aside0.mk (And.intro hPI (And.intro hFr hm))
    obtain ⟨At, ct, rfl⟩ := Kd.R_slice hRp.t
    have c5 := (cells51 hRp).2.2.2.2.2.1
    have c6 := (cells51 hRp).2.2.2.2.2.2.1
    have HRp := Aside0.mk hRp
    by_cases hlt : st1.head < st1.trail.length
    · obtain ⟨g, cap, hg, _, _, hcell⟩ := hRp.t.intCell (by omega)
      have hAt : At = some ⟨g, 0, none⟩ := by injection hg
      subst hAt
      obtain ⟨x, hx⟩ : ∃ x, st1.trail[st1.head]? = some x := ⟨_, List.getElem?_eq_getElem hlt⟩
      have x1 := (hcell st1.head hlt).1
      rw [getD_of hx] at x1
      obtain ⟨hok, hmem⟩ := hPI.lit hlt hx
      have hn : st1.n ≤ 65536 := by rw [hPI.n]; exact HBD.out.n
      have hw : IntKind.i64.wrap (-x) = -x := wrap_neg (by have := hok.2; omega) (by have := hok.2; omega)
      have hbd : Bd st1 := ⟨hn, by rw [← hPI.pf.1]; exact HBD.out.m⟩
      obtain ⟨hd, hhd⟩ : ∃ k, st1.head = k := ⟨_, rfl⟩
      obtain ⟨nt, hnt⟩ : ∃ k, st1.trail.length = k := ⟨_, rfl⟩
      have HX := Aside0.mk (And.intro hx (And.intro hok (And.intro hmem (And.intro hbd (And.intro hhd hnt)))))
      rw [hhd] at c6 x1 hlt
      rw [hnt] at c5 hlt
      have q1 : decide ((hd : Int) < (nt : Int)) = true := decide_eq_true (by omega)
      have q2 : decide (hd < nt) = true := decide_eq_true hlt
      have q3 : (0 : Int) ≤ (hd : Int) := by omega
      have q4 : (hd : Int) < (nt : Int) := by omega
      clear hPI hFr hm hRp hcell hx hok hmem hn hbd hhd hnt hg
      go_wp2
      go_quiet (fail)
      go_wp2
      have hb1 := bd_drewN wr nq
      obtain ⟨w1, hw1⟩ : ∃ w1, wr.drewN nq = w1 := ⟨_, rfl⟩
      rw [hw1] at hb1 ⊢
      have y5 := cell_later hb1 c5
      have y6 := cell_later hb1 c6
      have yx := cell_later hb1 x1
      have HB1 := Aside0.mk hb1
      clear hw1 hb1 c5 c6 x1
      go_still_tail 12, (by kernel_rfl)
      change wpList _ _ _ _ _ w1.drew
      have hb2 := HB1.out.trans ((bd_drew w1).mono HB1.out.size)
      have HFL := Aside0.mk (fail42 (w := w1.drew) ⟨_, _, _, _, _, _, _, HRp.out.below hb2⟩ HPI.out.1.tr HPI.out.1.wa HX.out.2.2.2.1 HX.out.2.1 HX.out.2.2.1)
      have HB2 := Aside0.mk hb2
      obtain ⟨w2, hw2⟩ : ∃ w2, w1.drew = w2 := ⟨_, rfl⟩
      rw [hw2] at HFL HB2 ⊢
      clear hw2 hb2
      go_wp2_with fail
      go_at_call 42
      refine HFL.out.mono ?_
      rintro e w3 ⟨st2, r, ow2, rfl, hFE, hfr, ⟨vf2, vi2, vv2, vs2, vt2, fs2, is2, hR2⟩⟩
      have HF := Aside0.mk (And.intro hFE (And.intro hfr hR2))
      have u6 : w3.cell? ⟨B, 6, none⟩ = some (.int .i64 (hd : Int)) := by
        have := (cells51 hR2).2.2.2.2.2.2.1
        rw [hFE.head, HX.out.2.2.2.2.1] at this
        exact this
      have f6 : w3.frozen? ⟨B, 6, none⟩ = false := blk_frozen hR2.box 6
      have hnt16 : nt ≤ 65536 := by
        have h1 := HPI.out.1.tr.len
        have h2 := HX.out.2.2.2.1.n
        have h3 := HX.out.2.2.2.2.2
        omega
      clear hFE hfr hR2
      cases r with
      | false =>
        go_wp2
        go_ret
        exact ⟨st2, false, ow2, rfl, HPI.out.1.fail HX.out.1 HF.out.1, (HPI.out.2.1.trans (Fr.of_below HB2.out)).trans HF.out.2.1, _, _, _, _, _, _, _, HF.out.2.2⟩
      | true =>
        go_wp2
        have hst := HPI.out.1.step HX.out.1 HF.out.1
        rw [HX.out.2.2.2.2.1] at hst
        have hnew := HF.out.2.2.newHead (hd + 1)
        have hfr2 := (Chg.set HF.out.2.2.bo 6 (Value.int .i64 ((hd + 1 : Nat) : Int))).fr (w := w3)
        have ecast : ((hd + 1 : Nat) : Int) = (hd : Int) + 1 := by omega
        rw [ecast] at hnew hfr2
        have hmn := HPI.out.2.2
        rw [HX.out.2.2.2.2.1] at hmn
        have hn2 : st2.n = st1.n := HF.out.1.n
        have hl1 := HPI.out.1.tr.len
        have hl2 := HX.out.2.2.2.2.2
        have HZ : Aside0 (LoopP w ow B st (gk - 1) (w3.setCell ⟨B, 6, none⟩ (.int .i64 ((hd : Int) + 1)))) := ⟨_, ow2, _, _, _, _, _, _, _, hst, ((HPI.out.2.1.trans (Fr.of_below HB2.out)).trans HF.out.2.1).trans hfr2, hnew, by show gk - 1 + (hd + 1) = st2.n; omega⟩
        have hgk : gk - 1 < gk := by omega
        clear hst hnew hfr2 ecast hmn hn2 hl1 hl2
        go_roundg (gk - 1)
        case measure => exact hgk
        case rel => exact HZ
    · have hd0 : st1.head = st1.trail.length := by have := hPI.h1; omega
      have hfin := Aside0.mk (hPI.fin hd0)
      obtain ⟨hd, hhd⟩ : ∃ k, st1.head = k := ⟨_, rfl⟩
      obtain ⟨nt, hnt⟩ : ∃ k, st1.trail.length = k := ⟨_, rfl⟩
      rw [hhd] at c6 hlt
      rw [hnt] at c5 hlt
      have q1 : decide ((hd : Int) < (nt : Int)) = false := decide_eq_false (by omega)
      have q2 : decide (hd < nt) = false := decide_eq_false hlt
      clear hPI hFr hm hRp hd0 hhd hnt hlt
      go_wp2
      go_quiet (fail)
      go_wp2
      go_ret
      exact ⟨st1, true, ow1, rfl, hfin.out, HPI.out.2.1.trans (Fr.of_below (bd_drewN wr _)), _, _, _, _, _, _, _, HRp.out.below (bd_drewN wr _)⟩
end Go.Proofs.Ytnhpfdnhnocgjaa.S
/- back: walked over the relation. -/
namespace Go.Proofs.Ytnhpfdnhnocgjaa.S
open Go.RowKit Go.Proofs.Ytnhpfdnhnocgjaa.D Go.Proofs.YtnhpfdnhnocgjaaW.PrintWords Go.Proofs.YtnhpfdnhnocgjaaW.PrintLast Go.Proofs.YtnhpfdnhnocgjaaW.PrintMore
set_option linter.unusedVariables false
set_option linter.unusedSimpArgs false
attribute [local go_sem] max2_int min2_int max_two min_two
def BackP (w : World) (ow : Nat → Option Role) (B : Nat) (st : St) (w' : World) : Prop := ∃ ow', Fr ow ow' w w' ∧ Rep w' ow' B st
def LoopB (w0 : World) (ow : Nat → Option Role) (B : Nat) (st : St) (vf vi vv vs vt : Value) (fs is : List SL) (k j : Nat) (wr : World) : Prop := Fr ow ow w0 wr ∧ Rp wr ow B { st with set := clr st.set ((st.trail.drop k).take j) } vf vi vv vs vt fs is
theorem clr_snoc : ∀ (t : List Int) (l : List Bool) (x : Int), clr l (t ++ [x]) = (clr l t).set x.natAbs false
  | [], l, x => rfl
  | y :: t, l, x => by rw [List.cons_append, clr, clr, clr_snoc t]
theorem LoopB.stepB {w0 wr : World} {ow : Nat → Option Role} {B : Nat} {st : St} {vf vi vv vs vt : Value} {fs is : List SL} {k j : Nat} (h : LoopB w0 ow B st vf vi vv vs vt fs is k j wr) {x : Int} (hx : st.trail[k + j]? = some x) {g n c : Nat} (hvs : vs = .slice (some ⟨g, 0, none⟩) n c) : LoopB w0 ow B st vf vi vv vs vt fs is k (j + 1) (wr.setCell ⟨g, x.natAbs, none⟩ (.bool false)) := by
  have ho : ow g = some .set := h.2.s.block (by rw [hvs]; rfl)
  have hc : Chg ow ow wr (wr.setCell ⟨g, x.natAbs, none⟩ (.bool false)) .set := Chg.set ho _ _
  have hs : OR Kd.bool 4 (wr.setCell ⟨g, x.natAbs, none⟩ (.bool false)) ow .set vs ((clr st.set ((st.trail.drop k).take j)).set x.natAbs false) := by
    have := h.2.s
    rw [hvs] at this ⊢
    exact OR.put this _ _
  have e : (st.trail.drop k).take (j + 1) = (st.trail.drop k).take j ++ [x] := by
    have hl : j < (st.trail.drop k).length := by have := lt_of hx; rw [List.length_drop]; omega
    rw [List.take_succ_eq_append_getElem hl]
    congr 2
    rw [List.getElem_drop]
    exact (List.getElem?_eq_some_iff.1 hx).2
  refine ⟨h.1.trans hc.fr, ?_⟩
  have hr := h.2.newSet hc hs
  rw [e, clr_snoc]
  exact hr
theorem LoopB.finB {w0 wr : World} {ow : Nat → Option Role} {B : Nat} {st : St} {vf vi vv vs : Value} {At : Option Addr} {nt ct : Nat} {fs is : List SL} {k j : Nat} (h : LoopB w0 ow B st vf vi vv vs (.slice At nt ct) fs is k j wr) (hk : k ≤ st.trail.length) (hj : st.trail.length ≤ k + j) : BackP w0 ow B (st.back k) ((wr.setCell ⟨B, 5, none⟩ (.slice At k ct)).setCell ⟨B, 6, none⟩ (.int .i64 (k : Int))) := by
  have hO : OR (Kd.int .i64) 3 wr ow .tr (.slice At k ct) (st.trail.take k) := Kd.R_take (show Kd.R (Kd.int .i64) 3 wr 0 _ (.slice At nt ct) _ from h.2.t) hk
  have r1 := h.2.newTrail (Chg.of_below (Below.refl _ _)) hO
  have r2 := r1.newHead k
  have f1 := (Chg.set h.2.bo 5 (.slice At k ct)).fr (w := wr)
  have f2 := (Chg.set h.2.bo 6 (.int .i64 (k : Int))).fr (w := wr.setCell ⟨B, 5, none⟩ (.slice At k ct))
  have e : (st.trail.drop k).take j = st.trail.drop k := List.take_of_length_le (by rw [List.length_drop]; omega)
  rw [e] at r2
  exact ⟨ow, (h.1.trans f1).trans f2, _, _, _, _, _, _, _, r2⟩
set_option maxRecDepth 100000 in
set_option maxHeartbeats 4000000 in
theorem back30 {w : World} {ow : Nat → Option Role} {B : Nat} {st : St} (hR : Rep w ow B st) (hT : Tr st) (hn : st.n ≤ 65536) {k : Nat} (hk : k ≤ st.trail.length) :
    Calls Try.prog 30 #[.pointer (some ⟨B, 0, none⟩), .int .i64 (k : Int)] w fun e w' => e = .returned (.tuple #[]) ∧ BackP w ow B (st.back k) w' := by
  obtain ⟨vf, vi, vv, vs, vt, fs, is, h⟩ := hR
  have hlen := hT.len
  obtain ⟨At, ct, rfl⟩ := Kd.R_slice h.t
  have hct : st.trail.length ≤ ct := (Kd.R_reads' (show Kd.R (Kd.int .i64) 3 w 0 _ (.slice At st.trail.length ct) _ from h.t)).2.1
  have c5 := (cells51 h).2.2.2.2.2.1
  have H := Aside0.mk (And.intro h (And.intro hT hn))
  obtain ⟨nt, hnt⟩ : ∃ m, st.trail.length = m := ⟨_, rfl⟩
  have HNT := Aside0.mk hnt
  rw [hnt] at c5 hk hct hlen
  clear h hT hnt
  have p0 : (0 : Int) ≤ (k : Int) := by omega
  have p1 : (k : Int) ≤ (nt : Int) := by omega
  have p2 : (nt : Int) ≤ (ct : Int) := by omega
  have HL0 := Aside0.mk (show LoopB w ow B st vf vi vv vs (.slice At st.trail.length ct) fs is k 0 w from ⟨Fr.refl _ _, H.out.1⟩)
  by_cases hkn : k = nt
  · subst hkn
    by_cases hck : ct = k
    all_goals
      go_enter Try.func30, Try.ntmps30
      go_wp2
      go_loopw [13] (fun v13 wr => v13 = .int .i64 0 ∧ Aside0 (LoopB w ow B st vf vi vv vs (.slice At st.trail.length ct) fs is k 0 wr)) (fun _ _ => 0)
      case atStart => exact ⟨rfl, HL0⟩
      case round =>
        obtain ⟨rfl, HLB⟩ := hrel
        have c5r := (cells51 HLB.out.2).2.2.2.2.2.1
        have f5 : wr.frozen? ⟨B, 5, none⟩ = false := blk_frozen HLB.out.2.box 5
        have c6r := (cells51 HLB.out.2).2.2.2.2.2.2.1
        have f6 : wr.frozen? ⟨B, 6, none⟩ = false := blk_frozen HLB.out.2.box 6
        rw [HNT.out] at c5r
        have hfin := Aside0.mk (HLB.out.finB (by rw [HNT.out]; exact hk) (by rw [HNT.out]; omega))
        go_wp2
        go_end0
        first
          | exact ⟨rfl, hfin.out⟩
          | (have h := hfin.out; rw [hck] at h; exact ⟨rfl, h⟩)
  · have p3 : (k : Int) < (nt : Int) := by omega
    obtain ⟨g, cap, hg, og, _, _⟩ := H.out.1.t.intCell (by rw [HNT.out]; omega)
    have hAt : At = some ⟨g, 0, none⟩ := by injection hg
    subst hAt
    clear hg
    go_enter Try.func30, Try.ntmps30
    go_wp2
    obtain ⟨m, hm⟩ : ∃ m, nt - k = m := ⟨_, rfl⟩
    obtain ⟨cm, hcm⟩ : ∃ cm, ct - k = cm := ⟨_, rfl⟩
    rw [hm, hcm]
    have hkm : k + m = nt := by omega
    clear hm hcm
    go_loopw [13] (fun v13 wr => ∃ j : Nat, v13 = .int .i64 (j : Int) ∧ j ≤ m ∧ Aside0 (LoopB w ow B st vf vi vv vs (.slice (some ⟨g, 0, none⟩) st.trail.length ct) fs is k j wr)) (fun v13 _ => m - (intOf v13).toNat)
    case atStart => exact ⟨0, rfl, Nat.zero_le _, HL0⟩
    case round =>
      obtain ⟨j, rfl, hjm, HLB⟩ := hrel
      by_cases hj : j < m
      · have hxl : k + j < st.trail.length := by rw [HNT.out]; omega
        obtain ⟨x, hx⟩ : ∃ x, st.trail[k + j]? = some x := ⟨_, List.getElem?_eq_getElem hxl⟩
        have hxo := H.out.2.1.ok x (List.mem_of_getElem? hx)
        have x1 : wr.cell? ⟨g, k + j, none⟩ = some (.int .i64 x) := by
          obtain ⟨g', cap', hg', _, _, hc'⟩ := HLB.out.2.t.intCell (by show 0 < st.trail.length; omega)
          have hgg : g = g' := by injection hg' with ha _ _; injection ha with ha; injection ha
          subst hgg
          have := (hc' (k + j) hxl).1
          rwa [getD_of hx] at this
        obtain ⟨gs, cs, hvs, _, _, hcs⟩ := HLB.out.2.s.boolCell (by show 0 < (clr st.set _).length; rw [clr_length, H.out.2.1.ls]; omega)
        have hxs : x.natAbs < (clr st.set ((st.trail.drop k).take j)).length := by rw [clr_length, H.out.2.1.ls]; have := hxo.2; omega
        obtain ⟨s1, s2⟩ := hcs x.natAbs hxs
        have c4 := (cells51 HLB.out.2).2.2.2.2.1
        rw [hvs] at c4
        have HST := Aside0.mk (HLB.out.stepB hx hvs)
        have hlc : (clr st.set ((st.trail.drop k).take j)).length = st.n + 1 := by rw [clr_length]; exact H.out.2.1.ls
        replace c4 : wr.cell? ⟨B, 4, none⟩ = some (.slice (some ⟨gs, 0, none⟩) (st.n + 1) cs) := by rw [← hlc]; exact c4
        obtain ⟨ns, hns⟩ : ∃ ns, st.n + 1 = ns := ⟨_, rfl⟩
        rw [hns] at c4
        have hx1 : -65536 ≤ x := by have := hxo.2; omega
        have hx2 : x ≤ 65536 := by have := hxo.2; omega
        have hxn : x.natAbs < ns := by have := hxo.2; omega
        obtain ⟨bb, hbb⟩ : ∃ b, (clr st.set ((st.trail.drop k).take j)).getD x.natAbs false = b := ⟨_, rfl⟩
        rw [hbb] at s1
        have q1 : decide ((j : Int) < (m : Int)) = true := decide_eq_true (by omega)
        have q2 : decide (j < m) = true := decide_eq_true hj
        have q3 : (0 : Int) ≤ (j : Int) := by omega
        have q4 : (j : Int) < (m : Int) := by omega
        clear hxl hx hxo hvs hcs hxs hlc hns hbb
        by_cases hx0 : x < 0
        · obtain ⟨jj, hjj⟩ : ∃ jj : Int, -x = jj := ⟨_, rfl⟩
          have hw : IntKind.i64.wrap (-x) = jj := (wrap_neg hx1 hx2).trans hjj
          have hjn : x.natAbs = jj.toNat := by omega
          have hmx : x ≤ -x := by omega
          have p5 : 0 ≤ jj := by omega
          have p6 : jj < (ns : Int) := by omega
          rw [hjn] at s1 s2 HST
          clear hjn hxn
          go_wp2
          all_goals
            go_roundw
            case rel => exact ⟨j + 1, by go_num, by omega, HST⟩
            case measure => simp [intOf]; omega
        · have hjn : x.natAbs = x.toNat := by omega
          have hmx : -x ≤ x := by omega
          have p5 : 0 ≤ x := by omega
          have p6 : x < (ns : Int) := by omega
          rw [hjn] at s1 s2 HST
          clear hjn hxn
          go_wp2
          all_goals
            go_roundw
            case rel => exact ⟨j + 1, by go_num, by omega, HST⟩
            case measure => simp [intOf]; omega
      · have ej : j = m := by omega
        subst ej
        have c5r := (cells51 HLB.out.2).2.2.2.2.2.1
        have f5 : wr.frozen? ⟨B, 5, none⟩ = false := blk_frozen HLB.out.2.box 5
        have c6r := (cells51 HLB.out.2).2.2.2.2.2.2.1
        have f6 : wr.frozen? ⟨B, 6, none⟩ = false := blk_frozen HLB.out.2.box 6
        rw [HNT.out] at c5r
        have hfin := Aside0.mk (HLB.out.finB (by rw [HNT.out]; exact hk) (by rw [HNT.out]; omega))
        go_wp2
        go_end0
        first
          | exact ⟨rfl, hfin.out⟩
          | (have h := hfin.out; rw [hck] at h; exact ⟨rfl, h⟩)
end Go.Proofs.Ytnhpfdnhnocgjaa.S
/- free: walked over the relation. -/
namespace Go.Proofs.Ytnhpfdnhnocgjaa.S
open Go.RowKit Go.Proofs.Ytnhpfdnhnocgjaa.D Go.Proofs.YtnhpfdnhnocgjaaW.PrintWords Go.Proofs.YtnhpfdnhnocgjaaW.PrintLast Go.Proofs.YtnhpfdnhnocgjaaW.PrintMore
set_option linter.unusedVariables false
set_option linter.unusedSimpArgs false
attribute [local go_sem] max2_int min2_int max_two min_two
/-- All clauses from a place up to another hold. -/
def Hold (st : St) (a b : Nat) : Prop := ∀ (t : Nat) (c : List Int), a ≤ t → t < b → st.f[t]? = some c → holdsC st c = true
def FreeP (w : World) (st : St) (a : Nat) (e : Ending) (w' : World) : Prop := Below w.heap.size w w' ∧
  ((e = .returned (.tuple #[.int .i64 0, .int .i64 (st.f.length : Int)]) ∧ Hold st a st.f.length) ∨
   ∃ (i : Nat) (c : List Int), e = .returned (.tuple #[.int .i64 (firstOpen st c : Int), .int .i64 (i : Int)]) ∧ a ≤ i ∧ st.f[i]? = some c ∧ holdsC st c = false ∧ Hold st a i)
theorem Hold.step {st : St} {a i : Nat} (h : Hold st a i) {c : List Int} (hc : st.f[i]? = some c) (hh : holdsC st c = true) : Hold st a (i + 1) := by
  intro t d h1 h2 hd
  by_cases e : t = i
  · subst e
    rw [hc] at hd
    injection hd with hd
    rw [← hd]; exact hh
  · exact h t d h1 (by omega) hd
set_option maxRecDepth 100000 in
set_option maxHeartbeats 8000000 in
theorem free29 {w : World} {ow : Nat → Option Role} {B : Nat} {st : St} (hR : Rep w ow B st) (hT : Tr st) (hW : Wa st) (hb : Bd st) {a : Nat} (ha : a ≤ st.f.length) :
    Calls Try.prog 29 #[.pointer (some ⟨B, 0, none⟩), .int .i64 (a : Int)] w (FreeP w st a) := by
  obtain ⟨vf, vi, vv, vs, vt, fs, is, h⟩ := hR
  obtain ⟨Af, cf, rfl⟩ := Kd.R_slice h.f
  have hfl : fs.length = st.f.length := h.fl
  rw [hfl] at h
  have H := Aside0.mk (And.intro h (And.intro hT (And.intro hW hb)))
  have hm16 := hb.m
  obtain ⟨nf, hnf⟩ : ∃ m, st.f.length = m := ⟨_, rfl⟩
  have HNF := Aside0.mk hnf
  rw [hnf] at ha hm16 h
  have HFP : Aside0 (∀ e w', FreeP w st a e w' ↔ FreeP w st a e w') := ⟨fun _ _ => Iff.rfl⟩
  clear h hT hW hb hfl hnf
  go_enter Try.func29, Try.ntmps29
  go_wp2
  go_loopg [6] (nf - a) (fun kq v6 wr => ∃ i : Nat, v6 = .int .i64 (i : Int) ∧ a ≤ i ∧ i ≤ nf ∧ kq = nf - i ∧ Aside0 (Below w.heap.size w wr ∧ Hold st a i))
  case atStart => exact ⟨a, rfl, Nat.le_refl _, ha, rfl, ⟨Below.refl _ _, fun t c h1 h2 _ => by omega⟩⟩
  case round =>
    obtain ⟨i, rfl, hai, hin, hkq, HR⟩ := hrel
    obtain ⟨wo, rfl⟩ : ∃ wo : World, wo = wr := ⟨_, rfl⟩
    obtain ⟨k0, rfl⟩ : ∃ k0, k0 = gk := ⟨_, rfl⟩
    have hRp := H.out.1.below HR.out.1
    have c1 := (cells51 hRp).2.1
    rw [HNF.out] at c1
    by_cases hi : i < nf
    · obtain ⟨c, hc⟩ : ∃ c, st.f[i]? = some c := ⟨_, List.getElem?_eq_getElem (by rw [HNF.out]; exact hi)⟩
      obtain ⟨s, hs⟩ : ∃ s, fs[i]? = some s := ⟨_, List.getElem?_eq_getElem (by rw [hRp.fl, HNF.out]; exact hi)⟩
      have hcl := H.out.2.2.1.cl c (List.mem_of_getElem? hc)
      obtain ⟨gf, cf', hvf, _, _, cellf⟩ := hRp.f.slCell (by have := lt_of hs; omega)
      have hAf : Af = some ⟨gf, 0, none⟩ := by injection hvf
      subst hAf
      have y1 := (cellf i s hs).1
      obtain ⟨gc, cc, hsv, _, _, _⟩ := (hRp.fc i s c hs hc).intCell (by have := hcl.two; omega)
      rw [hsv] at y1
      have hlen : c.length ≤ 65536 := by have := hcl.len; have := H.out.2.2.2.n; omega
      obtain ⟨nl, hnl⟩ : ∃ m, c.length = m := ⟨_, rfl⟩
      rw [hnl] at y1 hlen hsv
      have HC := Aside0.mk (And.intro hc (And.intro hs (And.intro hcl (And.intro hsv hnl))))
      have q1 : decide ((i : Int) < (nf : Int)) = true := decide_eq_true (by omega)
      have q2 : decide (i < nf) = true := decide_eq_true hi
      have q3 : (0 : Int) ≤ (i : Int) := by omega
      have q4 : (i : Int) < (nf : Int) := by omega
      clear hc hs hcl cellf hsv hnl hvf hRp
      go_wp2
      go_loopw [7, 8, 32] (fun v7 v8 v32 wr => ∃ j : Nat, v32 = .int .i64 (j : Int) ∧ j ≤ nl ∧ Aside0 (Below wo.heap.size wo wr) ∧ v7 = .int .i64 ((firstOpen st (c.take j) : Nat) : Int) ∧ v8 = .bool (holdsC st (c.take j))) (fun _ _ v32 _ => nl - (intOf v32).toNat)
      case atStart => exact ⟨0, rfl, Nat.zero_le _, ⟨Below.refl _ _⟩, rfl, rfl⟩
      case round =>
        obtain ⟨j, rfl, hjn, HBW, rfl, rfl⟩ := hrel
        have hRw := H.out.1.below (HR.out.1.trans (HBW.out.mono HR.out.1.size))
        by_cases hj : j < nl
        · obtain ⟨x, hx⟩ : ∃ x, c[j]? = some x := ⟨_, List.getElem?_eq_getElem (by rw [HC.out.2.2.2.2]; exact hj)⟩
          have hxo := HC.out.2.2.1.ok x (List.mem_of_getElem? hx)
          have x1 := (hRw.clCell HC.out.2.1 HC.out.1 HC.out.2.2.2.1 hx).1
          have HI := Aside0.mk (is40 (w := wr) ⟨_, _, _, _, _, _, _, hRw⟩ H.out.2.1 H.out.2.2.2.n hxo)
          have etk : c.take (j + 1) = c.take j ++ [x] := by
            have hl : j < c.length := lt_of hx
            rw [List.take_succ_eq_append_getElem hl]
            congr 2
            exact (List.getElem?_eq_some_iff.1 hx).2
          have hh := holdsC_snoc st (c.take j) x
          have hf := firstOpen_snoc st (c.take j) x (fun y hy => (HC.out.2.2.1.ok y (List.mem_of_mem_take hy)).1)
          rw [← etk] at hh hf
          obtain ⟨on, hon⟩ : ∃ b, st.on x = b := ⟨_, rfl⟩
          obtain ⟨kn, hkn⟩ : ∃ b, st.known x = b := ⟨_, rfl⟩
          rw [hon, hkn] at HI hh
          rw [hkn] at hf
          obtain ⟨hb0, hhb⟩ : ∃ b, holdsC st (c.take j) = b := ⟨_, rfl⟩
          obtain ⟨bs, hbs⟩ : ∃ b, firstOpen st (c.take j) = b := ⟨_, rfl⟩
          rw [hhb] at hh ⊢
          rw [hbs] at hf ⊢
          have HH := Aside0.mk (And.intro hh hf)
          have hx1 : -65536 ≤ x := by have := hxo.2; have := H.out.2.2.2.n; omega
          have hx2 : x ≤ 65536 := by have := hxo.2; have := H.out.2.2.2.n; omega
          have q5 : decide ((j : Int) < (nl : Int)) = true := decide_eq_true (by omega)
          have q6 : decide (j < nl) = true := decide_eq_true hj
          have q7 : (0 : Int) ≤ (j : Int) := by omega
          have q8 : (j : Int) < (nl : Int) := by omega
          have hsg : (x < 0 ∧ x ≤ -x ∧ ((x.natAbs : Nat) : Int) = -x) ∨ (¬ x < 0 ∧ -x ≤ x ∧ ((x.natAbs : Nat) : Int) = x) := by omega
          have HW := Aside0.mk (wrap_neg hx1 hx2)
          clear hx hxo hRw etk hh hf hon hkn hhb hbs
          rcases hsg with ⟨s1, s2, s3⟩ | ⟨s1, s2, s3⟩
          all_goals
            have HS3 := Aside0.mk s3
            have hw := HW.out
            clear s3
            cases kn
            · by_cases hb1 : bs = 0
              · subst hb1
                cases hb0 <;> cases on
                all_goals
                  go_wp2_with (go_at_call 40; refine HI.out.mono ?_; rintro e w1 ⟨rfl, hd⟩; have HD := Aside0.mk hd; clear hd)
                  go_roundw
                  case rel => exact ⟨j + 1, by go_num, by omega, ⟨HBW.out.trans ((HD.out.below).mono HBW.out.size)⟩, by rw [HH.out.2, if_neg (by decide), if_pos (by trivial), HS3.out], by rw [HH.out.1]; rfl⟩
                  case measure => simp [intOf]; omega
              · have hb2 : ((bs : Int) == 0) = false := by simpa using hb1
                cases hb0 <;> cases on
                all_goals
                  go_wp2_with (go_at_call 40; refine HI.out.mono ?_; rintro e w1 ⟨rfl, hd⟩; have HD := Aside0.mk hd; clear hd)
                  go_roundw
                  case rel => exact ⟨j + 1, by go_num, by omega, ⟨HBW.out.trans ((HD.out.below).mono HBW.out.size)⟩, by rw [HH.out.2, if_neg (by decide), if_neg hb1], by rw [HH.out.1]; rfl⟩
                  case measure => simp [intOf]; omega
            · cases hb0 <;> cases on
              all_goals
                go_wp2_with (go_at_call 40; refine HI.out.mono ?_; rintro e w1 ⟨rfl, hd⟩; have HD := Aside0.mk hd; clear hd)
                go_roundw
                case rel => exact ⟨j + 1, by go_num, by omega, ⟨HBW.out.trans ((HD.out.below).mono HBW.out.size)⟩, by rw [HH.out.2, if_pos (by trivial)], by rw [HH.out.1]; rfl⟩
                case measure => simp [intOf]; omega
        · have ej : j = nl := by omega
          subst ej
          have etk : c.take j = c := List.take_of_length_le (by rw [HC.out.2.2.2.2]; exact Nat.le_refl _)
          rw [etk]
          have HB2 := Aside0.mk (HR.out.1.trans (HBW.out.mono HR.out.1.size))
          cases hh : holdsC st c
          · have HHH := Aside0.mk hh
            clear hh etk hRw
            go_wp2
            go_ret2
            exact ⟨HB2.out, .inr ⟨i, c, rfl, hai, HC.out.1, HHH.out, HR.out.2⟩⟩
          · have HHH := Aside0.mk hh
            clear hh etk hRw
            go_wp2
            go_roundg (k0 - 1)
            case measure => omega
            case rel => exact ⟨i + 1, by go_num, by omega, by omega, by omega, ⟨HB2.out, HR.out.2.step HC.out.1 HHH.out⟩⟩
    · have ei : i = nf := by omega
      subst ei
      have hho := HR.out.2
      rw [← HNF.out] at hho
      have HHO := Aside0.mk hho
      clear hho hRp
      go_wp2
      go_quiet (fail)
      go_wp2
      go_ret2
      refine ⟨HR.out.1.trans ((bd_drewN wo _).mono HR.out.1.size), .inl ⟨?_, HHO.out⟩⟩
      rw [HNF.out]
      rfl
end Go.Proofs.Ytnhpfdnhnocgjaa.S
