/- tar's Write and ref22's in closed words. Plain. -/
import Derived.Test.YtlnogacjebbepaaDoorPx3
import Derived.Test.YtlnogacjebbepaaDoorPx5
import Derived.Test.YtlnogacjebbepaaDoorTarL
import Derived.Test.YtlnogacjebbepaaDoorHeadEq
namespace Go.Proofs.YtlnogacjebbepaaDoor.H
set_option linter.unusedVariables false
set_option linter.unusedSimpArgs false
open Go.RowKit Go.Proofs.YtlnogacjebbepaaDoor.P Go.Proofs.YtlnogacjebbepaaDoor.G Go.Proofs.YtlnogacjebbepaaDoorW.PrintWords Go.Proofs.YtlnogacjebbepaaDoorW.PrintLast Go.Proofs.YtlnogacjebbepaaDoorW.PrintMore
def zs (n : Nat) : List Int := List.replicate n 0
theorem zs_len (n : Nat) : (zs n).length = n := List.length_replicate
def fileB (x : S44) : List Int := headL x.f0 x.f1 (x.f2.length : Int) ++ x.f2 ++ zs (pad x.f2.length)
def bodyB : List S44 → List Int
  | [] => []
  | x :: d => fileB x ++ bodyB d
theorem costs_cons (x : S44) (d : List S44) : costs (x :: d) = cost x + costs d := by simp [costs]
theorem fileB_len (x : S44) (h : x.f0.size ≤ 99) : (fileB x).length = 512 * (1 + blk x.f2.length) := by
  unfold fileB
  rw [List.length_append, List.length_append, headL_len _ _ _ h, zs_len]
  have := blk_le x.f2.length
  unfold pad
  omega
def okF (x : S44) : Prop := ¬ badName x.f0 ∧ ¬ badDir x ∧ x.f2.length ≤ 64000
theorem cost_ok {x : S44} (h : x.f2.length ≤ 65536) : cost x = 1 + blk x.f2.length := by unfold cost; rw [Nat.min_eq_left h]
theorem bodyB_len : ∀ (d : List S44), (∀ x ∈ d, okF x) → (bodyB d).length = 512 * costs d
  | [], _ => rfl
  | x :: d, h => by
    have hx := h x (by simp)
    have hn : x.f0.size ≤ 99 := by
      have := hx.1
      unfold badName at this
      omega
    rw [bodyB, List.length_append, fileB_len x hn, bodyB_len d (fun y hy => h y (by simp [hy])), costs_cons, cost_ok (by have := hx.2.2; omega)]
    omega
theorem blk_128 : blk 65536 = 128 := by decide
theorem cost_le (x : S44) : ∀ l : List S44, x ∈ l → cost x ≤ costs l
  | y :: l, h => by
    rw [costs_cons]
    rcases List.mem_cons.1 h with rfl | h
    · omega
    · have := cost_le x l h
      omega
theorem may_ok {l : List S44} (h : mayV l = 0) : (∀ x ∈ l, okF x) ∧ costs l ≤ 126 := by
  unfold mayV at h
  by_cases h1 : ∃ x ∈ l, badName x.f0
  · rw [if_pos h1] at h; cases h
  · rw [if_neg h1] at h
    by_cases h2 : ∃ x ∈ l, badDir x
    · rw [if_pos h2] at h; cases h
    · rw [if_neg h2] at h
      by_cases h3 : 128 < 2 + costs l
      · rw [if_pos h3] at h; cases h
      · have hc : costs l ≤ 126 := by omega
        refine ⟨fun x hx => ⟨fun hb => h1 ⟨x, hx, hb⟩, fun hb => h2 ⟨x, hx, hb⟩, ?_⟩, hc⟩
        have hle : cost x ≤ costs l := cost_le x l hx
        unfold cost blk at hle
        omega
theorem may_of {l : List S44} (h : ∀ x ∈ l, okF x) (hc : costs l ≤ 126) : mayV l = 0 := by
  unfold mayV
  rw [if_neg (fun ⟨x, hx, hb⟩ => (h x hx).1 hb), if_neg (fun ⟨x, hx, hb⟩ => (h x hx).2.1 hb), if_neg (by omega)]
theorem okF_name {x : S44} (h : okF x) : x.f0.size ≤ 99 := by
  have := h.1
  unfold badName at this
  omega
theorem head_f {x : S44} (h : x.f0.size ≤ 99) (hl : x.f2.length ≤ 9223372036854775807) : tar_head.f x.f0 x.f1 x.f2 = some (headL x.f0 x.f1 (x.f2.length : Int)) := by unfold tar_head.f; rw [if_pos h, if_pos hl]
theorem write_l0 (l : List S44) (hl : l.length ≤ 1000000000) : ∀ (d : List S44) (b : List Int) (i : Nat), i ≤ l.length → l.drop i = d → (∀ x ∈ d, okF x) → b.length + 512 * costs d ≤ 1000000 → Ev (fun k => tar_Write.l0 k b l (l.length : Int) (i : Int)) (b ++ bodyB d ++ zs 1024, 0)
  | [], b, i, hi, h, hd, hb => by
    have h1 := drop_nil_le h
    refine Ev.step (f := fun _ => some (b ++ bodyB [] ++ zs 1024, 0)) (fun k => ?_) (Ev.now _)
    rw [tar_Write.l0, if_neg (by omega), if_pos (by omega), bodyB, List.append_nil]
    rfl
  | x :: d, b, i, hi, h, hd, hb => by
    obtain ⟨hlt, _, h4⟩ := drop_getD z44 h
    have hx := rd44 h
    have ok := hd x (by simp)
    have hn := okF_name ok
    have hsz := ok.2.2
    have hbl := blk_le x.f2.length
    have hbb : blk x.f2.length ≤ 126 := by unfold blk; omega
    rw [costs_cons, cost_ok (by omega)] at hb
    have hh := head_f (x := x) hn (by omega)
    have hlen := headL_len x.f0 x.f1 (x.f2.length : Int) hn
    have e1 : wrap64 (wrap64 ((blk x.f2.length : Int) * 512) - (x.f2.length : Int)) = ((pad x.f2.length : Nat) : Int) := by
      rw [w64 (x := (blk x.f2.length : Int) * 512) (by omega), w64 (by omega)]
      unfold pad
      omega
    have hp : pad x.f2.length ≤ 600 := by unfold pad blk; omega
    have ih := write_l0 l hl d (b ++ fileB x) (i + 1) (by omega) h4 (fun y hy => hd y (by simp [hy])) (by rw [List.length_append, fileB_len x hn]; omega)
    have ea : b ++ fileB x ++ bodyB d ++ zs 1024 = b ++ bodyB (x :: d) ++ zs 1024 := by rw [bodyB]; simp [List.append_assoc]
    rw [ea] at ih
    have eb : b ++ headL x.f0 x.f1 (x.f2.length : Int) ++ x.f2 ++ List.replicate (pad x.f2.length) 0 = b ++ fileB x := by unfold fileB zs; simp [List.append_assoc]
    refine Ev.step (fun k => ?_) ih
    rw [tar_Write.l0, if_pos (by omega), if_pos (by omega), if_pos (by omega), hx, hh, Option.bind_some, if_pos (by omega), Option.bind_some, if_pos (by rw [List.length_append]; omega), Option.bind_some, blocks_eq _ (by omega), Option.bind_some, e1, if_pos (by omega), Int.toNat_natCast, if_pos (by rw [List.length_append, List.length_append]; omega), eb, w64 (x := (i : Int) + 1) (by omega)]
    rfl
def writeV (l : List S44) : List Int × Int := if mayV l = 0 then (bodyB l ++ zs 1024, 0) else ([], mayV l)
theorem write_ev (l : List S44) (hl : l.length ≤ 1000000000) : Ev (fun k => tar_Write.f k l) (writeV l) := by
  refine Ev.bind (may_ev l hl) ?_
  unfold writeV
  by_cases h : mayV l = 0
  · rw [if_pos h]
    obtain ⟨h1, h2⟩ := may_ok h
    have := write_l0 l hl l [] 0 (by omega) rfl h1 (by simp; omega)
    rw [List.nil_append] at this
    exact Ev.congr (fun k => if_pos h) this
  · rw [if_neg h]
    exact Ev.congr (fun k => if_neg h) (Ev.now _)
/-! ref22 -/
def conv (x : S37) : S44 := ⟨x.f0, x.f1, x.f2⟩
theorem rd37 {l d : List S37} {x : S37} {i : Nat} (h : l.drop i = x :: d) : rd_T37 l (i : Int) = x := (drop_getD z37 h).2.1
theorem rhead_f {a : ByteArray} {b : Bool} {l : List Int} (h : a.size ≤ 99) (hl : l.length ≤ 9223372036854775807) : crossroadsref22_Head.f a b l = some (headL a b (l.length : Int)) := by unfold crossroadsref22_Head.f; rw [if_pos h, if_pos hl]
/-- So many noughts until the length is a number of blocks. -/
theorem ref_l4 (l : List S37) (i : Nat) (r : List Int × Int) : ∀ (m : Nat) (b : List Int), (b.length + m) % 512 = 0 → m < 512 → b.length + m ≤ 1000000 → Ev (fun k => crossroadsref22_Write.l3 k l (b ++ zs m) (wrap64 ((i : Int) + 1))) r → Ev (fun k => crossroadsref22_Write.l4 k l b (i : Int)) r
  | 0, b, hm, h5, hb, hr => by
    have e : b ++ zs 0 = b := by simp [zs]
    rw [e] at hr
    exact Ev.step (fun k => by rw [crossroadsref22_Write.l4, if_pos (by omega)]) hr
  | m + 1, b, hm, h5, hb, hr => by
    have e : b ++ zs (m + 1) = (b ++ [0]) ++ zs m := by simp [zs, List.replicate_succ]
    rw [e] at hr
    have hl1 : (b ++ [(0 : Int)]).length = b.length + 1 := by simp
    refine Ev.step (fun k => ?_) (ref_l4 l i r m (b ++ [0]) (by rw [hl1]; omega) (by omega) (by rw [hl1]; omega) hr)
    rw [crossroadsref22_Write.l4, if_neg (by omega), if_pos (by omega)]
set_option maxHeartbeats 2000000 in
theorem ref_l3 (l : List S37) (hl : l.length ≤ 1000000000) (hdat : ∀ x ∈ l, x.f2.length ≤ 1000000000) : ∀ (d : List S37) (b : List Int) (S i : Nat), i ≤ l.length → l.drop i = d → b.length = 512 * S → S ≤ 1000 → (∀ x ∈ d, x.f0.size ≤ 99) →
    Ev (fun k => crossroadsref22_Write.l3 k l b (i : Int)) (if 128 < 2 + S + costs (d.map conv) then ([], 3) else (b ++ bodyB (d.map conv) ++ zs 1024, 0))
  | [], b, S, i, hi, h, hb, hS, hn => by
    have h1 := drop_nil_le h
    have e0 : costs (([] : List S37).map conv) = 0 := rfl
    have e2 : bodyB (([] : List S37).map conv) = [] := rfl
    rw [e0, e2, List.append_nil]
    have hl2 : (b ++ zs 1024).length = 512 * (S + 2) := by rw [List.length_append, zs_len]; omega
    have e1 : b ++ List.replicate 1024 0 = b ++ zs 1024 := rfl
    by_cases c : 128 < 2 + S
    · rw [if_pos (by omega)]
      refine Ev.step (f := fun _ => some ([], 3)) (fun k => ?_) (Ev.now _)
      rw [crossroadsref22_Write.l3, if_neg (by omega), if_pos (by omega), Option.bind_some, e1, if_pos (by omega)]
    · rw [if_neg (by omega)]
      refine Ev.step (f := fun _ => some (b ++ zs 1024, 0)) (fun k => ?_) (Ev.now _)
      rw [crossroadsref22_Write.l3, if_neg (by omega), if_pos (by omega), Option.bind_some, e1, if_neg (by omega)]
  | x :: d, b, S, i, hi, h, hb, hS, hn => by
    obtain ⟨hlt, _, h4⟩ := drop_getD z37 h
    have hx := rd37 h
    have hxn := hn x (by simp)
    have hxl : x ∈ l := by rw [← List.take_append_drop i l, h]; simp
    have hxd := hdat x hxl
    have ec : costs ((x :: d).map conv) = 1 + blk (min x.f2.length 65536) + costs (d.map conv) := by rw [List.map_cons, costs_cons]; rfl
    have e1 : wrap64 (wrap64 ((b.length : Int) + 1536) + (x.f2.length : Int)) = ((b.length + 1536 + x.f2.length : Nat) : Int) := by
      rw [w64 (x := (b.length : Int) + 1536) (by omega), w64 (by omega)]; omega
    by_cases c : 66047 < b.length + 1536 + x.f2.length
    · have : 128 < 2 + S + costs ((x :: d).map conv) := by
        rw [ec]
        unfold blk
        omega
      rw [if_pos this]
      refine Ev.step (f := fun _ => some ([], 3)) (fun k => ?_) (Ev.now _)
      rw [crossroadsref22_Write.l3, if_pos (by omega), if_pos (by omega), hx, e1, if_pos (by omega)]
    · have hxs : x.f2.length ≤ 65536 := by omega
      have k1 : (i : Int) < (l.length : Int) := by omega
      have k2 : 0 ≤ (i : Int) := by omega
      have k3 : ¬ ((b.length + 1536 + x.f2.length : Nat) : Int) > 66047 := by omega
      have hh := rhead_f (a := x.f0) (b := x.f1) (l := x.f2) hxn (by omega)
      have hlen := headL_len x.f0 x.f1 (x.f2.length : Int) hxn
      have hbl := blk_le x.f2.length
      have hfl : (fileB (conv x)).length = 512 * (1 + blk x.f2.length) := fileB_len (conv x) hxn
      have hbb : blk x.f2.length ≤ 128 := by unfold blk; omega
      have hpd : pad x.f2.length < 512 := by unfold pad blk; omega
      have eb0 : headL x.f0 x.f1 (x.f2.length : Int) ++ x.f2 ++ zs (pad x.f2.length) = fileB (conv x) := rfl
      have ea0 : bodyB ((x :: d).map conv) = fileB (conv x) ++ bodyB (d.map conv) := rfl
      generalize headL x.f0 x.f1 (x.f2.length : Int) = Hd at hh hlen eb0
      generalize fileB (conv x) = FB at hfl eb0 ea0
      have hdiv : (b ++ Hd ++ x.f2).length + pad x.f2.length = 512 * (S + 1 + blk x.f2.length) := by
        rw [List.length_append, List.length_append]
        unfold pad
        omega
      have hbF : (b ++ FB).length = 512 * (S + 1 + blk x.f2.length) := by rw [List.length_append, hfl]; omega
      have ih := ref_l3 l hl hdat d (b ++ FB) (S + 1 + blk x.f2.length) (i + 1) (by omega) h4 hbF (by omega) (fun y hy => hn y (by simp [hy]))
      have ecc : 2 + (S + 1 + blk x.f2.length) + costs (d.map conv) = 2 + S + costs ((x :: d).map conv) := by rw [ec, Nat.min_eq_left hxs]; omega
      have ea : b ++ FB ++ bodyB (d.map conv) ++ zs 1024 = b ++ bodyB ((x :: d).map conv) ++ zs 1024 := by rw [ea0, List.append_assoc b]
      rw [ecc, ea] at ih
      have eb : b ++ Hd ++ x.f2 ++ zs (pad x.f2.length) = b ++ FB := by rw [← eb0, List.append_assoc b, List.append_assoc b]
      have ew : wrap64 ((i : Int) + 1) = ((i + 1 : Nat) : Int) := by rw [w64 (by omega)]; rfl
      generalize (if 128 < 2 + S + costs ((x :: d).map conv) then (([] : List Int), (3 : Int)) else (b ++ bodyB ((x :: d).map conv) ++ zs 1024, 0)) = R at ih ⊢
      have h4' := ref_l4 l i R (pad x.f2.length) (b ++ Hd ++ x.f2) (by rw [hdiv]; omega) hpd (by rw [hdiv]; omega) (by rw [eb, ew]; exact ih)
      have g1 : b.length + Hd.length < 140737488355328 := by omega
      have g2 : (b ++ Hd).length + x.f2.length < 140737488355328 := by rw [List.length_append]; omega
      refine Ev.step (fun k => ?_) h4'
      rw [crossroadsref22_Write.l3, if_pos (by exact k1), if_pos (by exact k2), hx, e1, if_neg (by exact k3), hh, Option.bind_some, if_pos (by exact g1), Option.bind_some, if_pos (by exact g2)]
theorem ref_l2 (l : List S37) (hl : l.length ≤ 1000000000) (hdat : ∀ x ∈ l, x.f2.length ≤ 1000000000) (hn : ∀ x ∈ l, x.f0.size ≤ 99) : ∀ (d : List S37) (i : Nat), i ≤ l.length → l.drop i = d →
    Ev (fun k => crossroadsref22_Write.l2 k l (i : Int)) (if ∃ x ∈ d.map conv, badDir x then ([], 12) else if 128 < 2 + costs (l.map conv) then ([], 3) else (bodyB (l.map conv) ++ zs 1024, 0))
  | [], i, hi, h => by
    have h1 := drop_nil_le h
    have h3 := ref_l3 l hl hdat l [] 0 0 (by omega) rfl rfl (by omega) hn
    rw [Nat.add_zero, List.nil_append] at h3
    rw [if_neg (by simp)]
    refine Ev.step (fun k => ?_) h3
    rw [crossroadsref22_Write.l2, if_neg (by omega)]
    rfl
  | x :: d, i, hi, h => by
    obtain ⟨hlt, _, h4⟩ := drop_getD z37 h
    have hx := rd37 h
    have ih := ref_l2 l hl hdat hn d (i + 1) (by omega) h4
    by_cases c1 : badDir (conv x)
    · refine Ev.step (f := fun _ => some ([], 12)) (fun k => ?_) ?_
      · rw [crossroadsref22_Write.l2, if_pos (by omega), if_pos (by omega), hx, if_pos (show x.f1 = true from c1.1), if_pos (by have : 0 < x.f2.length := c1.2; omega)]
      · rw [if_pos ⟨conv x, by simp, c1⟩]; exact Ev.now _
    · have e : (∃ y ∈ (x :: d).map conv, badDir y) ↔ ∃ y ∈ d.map conv, badDir y := by
        simp only [List.map_cons, List.mem_cons, exists_eq_or_imp]
        exact ⟨fun hh => hh.resolve_left c1, .inr⟩
      simp only [e]
      refine Ev.step (fun k => ?_) ih
      rw [crossroadsref22_Write.l2, if_pos (by omega), if_pos (by omega), hx, w64 (x := (i : Int) + 1) (by omega)]
      by_cases c2 : x.f1 = true
      · rw [if_pos c2, if_neg (by intro h5; exact c1 ⟨c2, by show 0 < x.f2.length; omega⟩)]; rfl
      · rw [if_neg c2]; rfl
theorem ref_l1 (l : List S37) (i : Nat) (s : ByteArray) (b : Bool) (f : List Int) (r : List Int × Int) (hs : s.size ≤ 1000) (hr : Ev (fun k => crossroadsref22_Write.l0 k l (wrap64 ((i : Int) + 1))) r) : ∀ (m j : Nat), j + m = s.size →
    Ev (fun k => crossroadsref22_Write.l1 k l (i : Int) (j : Int) s b f) (if (0 : UInt8) ∈ s.data.toList.drop j then ([], 10) else r)
  | 0, j, hm => by
    have e : s.data.toList.drop j = [] := List.drop_eq_nil_of_le (by rw [Array.length_toList]; show s.size ≤ j; omega)
    rw [e, if_neg (by simp)]
    exact Ev.step (fun k => by rw [crossroadsref22_Write.l1, if_neg (by omega)]) hr
  | m + 1, j, hm => by
    have hj : j < s.data.toList.length := by rw [Array.length_toList]; show j < s.size; omega
    have hj2 : j < s.size := by omega
    have hbt : bt s (j : Int) = (s.data.toList[j].toNat : Int) := by
      unfold bt
      rw [Int.toNat_natCast, dif_pos hj2]
      rfl
    have ih := ref_l1 l i s b f r hs hr m (j + 1) (by omega)
    rw [List.drop_eq_getElem_cons hj]
    by_cases c : s.data.toList[j] = 0
    · rw [if_pos (by rw [c]; simp)]
      refine Ev.step (f := fun _ => some ([], 10)) (fun k => ?_) (Ev.now _)
      rw [crossroadsref22_Write.l1, if_pos (by omega), if_pos (by omega), hbt, c, if_pos (show ((UInt8.toNat 0 : Nat) : Int) = 0 from rfl)]
    · have e : ((0 : UInt8) ∈ s.data.toList[j] :: s.data.toList.drop (j + 1)) ↔ (0 : UInt8) ∈ s.data.toList.drop (j + 1) := by
        rw [List.mem_cons]
        exact ⟨fun hh => hh.resolve_left (fun hc => c hc.symm), .inr⟩
      simp only [e]
      refine Ev.step (fun k => ?_) ih
      rw [crossroadsref22_Write.l1, if_pos (by omega), if_pos (by omega), hbt, if_neg (fun hc => c (by rw [← UInt8.toNat_inj]; show _ = 0; omega)), w64 (x := (j : Int) + 1) (by omega)]
      rfl
theorem ref_l0 (l : List S37) (hl : l.length ≤ 1000000000) (hdat : ∀ x ∈ l, x.f2.length ≤ 1000000000 ∧ x.f0.size ≤ 1000000000) : ∀ (d : List S37) (i : Nat), i ≤ l.length → l.drop i = d → (∀ x ∈ l.take i, x.f0.size ≤ 99) →
    Ev (fun k => crossroadsref22_Write.l0 k l (i : Int)) (if ∃ x ∈ d.map conv, badName x.f0 then ([], 10) else if ∃ x ∈ l.map conv, badDir x then ([], 12) else if 128 < 2 + costs (l.map conv) then ([], 3) else (bodyB (l.map conv) ++ zs 1024, 0))
  | [], i, hi, h, hp => by
    have h1 := drop_nil_le h
    rw [List.take_of_length_le h1] at hp
    have h3 := ref_l2 l hl (fun x hx => (hdat x hx).1) hp l 0 (by omega) rfl
    rw [if_neg (by simp)]
    refine Ev.step (fun k => ?_) h3
    rw [crossroadsref22_Write.l0, if_neg (by omega)]
    rfl
  | x :: d, i, hi, h, hp => by
    obtain ⟨hlt, _, h4⟩ := drop_getD z37 h
    have hx := rd37 h
    have hxl : x ∈ l := by rw [← List.take_append_drop i l, h]; simp
    have hxs := (hdat x hxl).2
    have bad : ∀ b : Bool, b = true → Ev (fun k => crossroadsref22_Write.j1 k l (i : Int) b x.f0 x.f1 x.f2) ([], 10) := fun b hb => Ev.step (f := fun _ => some ([], 10)) (fun k => by rw [crossroadsref22_Write.j1, if_pos hb]) (Ev.now _)
    by_cases c0 : x.f0.size < 1
    · rw [if_pos ⟨conv x, by simp, .inl (by show x.f0.size = 0; omega)⟩]
      refine Ev.step (fun k => ?_) (bad true rfl)
      rw [crossroadsref22_Write.l0, if_pos (by omega), if_pos (by omega), hx, if_pos (by omega)]
    · by_cases c1 : 99 < x.f0.size
      · rw [if_pos ⟨conv x, by simp, .inr (.inl c1)⟩]
        refine Ev.step (fun k => ?_) (bad (decide ((x.f0.size : Int) > 99)) (decide_eq_true (by omega)))
        rw [crossroadsref22_Write.l0, if_pos (by omega), if_pos (by omega), hx, if_neg (by omega)]
      · have htk : l.take (i + 1) = l.take i ++ [x] := by
          rw [List.take_succ_eq_append_getElem hlt]
          congr 1
          rw [List.drop_eq_getElem_cons hlt] at h
          injection h with h1 h2
          rw [h1]
        have ih := ref_l0 l hl hdat d (i + 1) (by omega) h4 (by
          rw [htk]
          intro y hy
          rcases List.mem_append.1 hy with hy | hy
          · exact hp y hy
          · have : y = x := by simpa using hy
            subst this; omega)
        have ew : wrap64 ((i : Int) + 1) = ((i + 1 : Nat) : Int) := by rw [w64 (by omega)]; rfl
        have h1 := ref_l1 l i x.f0 x.f1 x.f2 _ (by omega) (by rw [ew]; exact ih) x.f0.size 0 (by omega)
        rw [List.drop_zero] at h1
        have er : (if (0 : UInt8) ∈ x.f0.data.toList then (([] : List Int), (10 : Int)) else if ∃ y ∈ d.map conv, badName y.f0 then ([], 10) else if ∃ x ∈ l.map conv, badDir x then ([], 12) else if 128 < 2 + costs (l.map conv) then ([], 3) else (bodyB (l.map conv) ++ zs 1024, 0)) = (if ∃ y ∈ (x :: d).map conv, badName y.f0 then ([], 10) else if ∃ x ∈ l.map conv, badDir x then ([], 12) else if 128 < 2 + costs (l.map conv) then ([], 3) else (bodyB (l.map conv) ++ zs 1024, 0)) := by
          by_cases c2 : (0 : UInt8) ∈ x.f0.data.toList
          · rw [if_pos c2, if_pos ⟨conv x, by simp, .inr (.inr c2)⟩]
          · have e : (∃ y ∈ (x :: d).map conv, badName y.f0) ↔ ∃ y ∈ d.map conv, badName y.f0 := by
              simp only [List.map_cons, List.mem_cons, exists_eq_or_imp]
              refine ⟨fun hh => hh.resolve_left (fun hb => ?_), .inr⟩
              rcases hb with hb | hb | hb
              · have : x.f0.size = 0 := hb
                omega
              · exact c1 hb
              · exact c2 hb
            rw [if_neg c2]
            simp only [e]
        rw [er] at h1
        refine Ev.step (fun k => ?_) (Ev.step (g := fun k => crossroadsref22_Write.j1 k l (i : Int) (decide ((x.f0.size : Int) > 99)) x.f0 x.f1 x.f2) (fun k => ?_) h1)
        · rw [crossroadsref22_Write.l0, if_pos (by omega), if_pos (by omega), hx, if_neg (by omega)]
        · rw [crossroadsref22_Write.j1, if_neg (by rw [decide_eq_true_iff]; omega)]
          rfl
theorem refw_ev (l : List S37) (hl : l.length ≤ 1000000000) (hdat : ∀ x ∈ l, x.f2.length ≤ 1000000000 ∧ x.f0.size ≤ 1000000000) : Ev (fun k => crossroadsref22_Write.f k l) (writeV (l.map conv)) := by
  have h := ref_l0 l hl hdat l 0 (by omega) rfl (by simp)
  have e : (if ∃ x ∈ l.map conv, badName x.f0 then (([] : List Int), (10 : Int)) else if ∃ x ∈ l.map conv, badDir x then ([], 12) else if 128 < 2 + costs (l.map conv) then ([], 3) else (bodyB (l.map conv) ++ zs 1024, 0)) = writeV (l.map conv) := by
    unfold writeV mayV
    by_cases h1 : ∃ x ∈ l.map conv, badName x.f0
    · simp only [if_pos h1]; rfl
    · by_cases h2 : ∃ x ∈ l.map conv, badDir x
      · simp only [if_neg h1, if_pos h2]; rfl
      · by_cases h3 : 128 < 2 + costs (l.map conv)
        · simp only [if_neg h1, if_neg h2, if_pos h3]; rfl
        · simp only [if_neg h1, if_neg h2, if_neg h3]; rfl
  rw [e] at h
  exact h
end Go.Proofs.YtlnogacjebbepaaDoor.H
