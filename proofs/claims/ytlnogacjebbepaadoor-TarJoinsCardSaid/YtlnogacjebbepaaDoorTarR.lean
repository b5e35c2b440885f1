/- tar.one and tar.Read in closed words. Plain. -/
import Derived.Test.YtlnogacjebbepaaDoorTarH
namespace Go.Proofs.YtlnogacjebbepaaDoor.H
set_option linter.unusedVariables false
set_option linter.unusedSimpArgs false
open Go.RowKit Go.Proofs.YtlnogacjebbepaaDoor.P Go.Proofs.YtlnogacjebbepaaDoor.G Go.Proofs.YtlnogacjebbepaaDoorW.PrintWords Go.Proofs.YtlnogacjebbepaaDoorW.PrintLast Go.Proofs.YtlnogacjebbepaaDoorW.PrintMore
theorem may_one {x : S44} (h : okF x) : mayV [x] = 0 := by
  refine may_of (fun y hy => ?_) ?_
  · have : y = x := by simpa using hy
    rw [this]; exact h
  · have := h.2.2
    rw [costs_cons, cost_ok (by omega)]
    show 1 + blk _ + 0 ≤ 126
    unfold blk
    omega
theorem one_may {x : S44} (h : mayV [x] = 0) : okF x := (may_ok h).1 x (by simp)
theorem zeroB_iff (L : List Int) : zeroB L = true ↔ L = zs L.length := by
  unfold zeroB zs
  rw [List.all_eq_true, List.eq_replicate_iff]
  simp
theorem zeroB_zs (n : Nat) : zeroB (zs n) = true := (zeroB_iff _).2 (by rw [zs_len])
theorem kind_eq (d : Bool) : (kindOf d == 53) = d := by cases d <;> rfl
/-- What one reads is what was written. -/
theorem one_file (x : S44) (h : okF x) (rest : List Int) : oneV (fileB x ++ rest) = (x.f0, x.f1, x.f2, rest, 0) := by
  have hn := okF_name h
  have hlen := headL_len x.f0 x.f1 (x.f2.length : Int) hn
  have h64 := h.2.2
  have hbl := blk_le x.f2.length
  have hp : x.f2.length + pad x.f2.length = blk x.f2.length * 512 := by unfold pad; omega
  have e0 : fileB x ++ rest = headL x.f0 x.f1 (x.f2.length : Int) ++ (x.f2 ++ (zs (pad x.f2.length) ++ rest)) := by unfold fileB; simp [List.append_assoc]
  have eH : (fileB x ++ rest).take 512 = headL x.f0 x.f1 (x.f2.length : Int) := by rw [e0, ← hlen, List.take_left]
  have eB : (fileB x ++ rest).drop 512 = x.f2 ++ (zs (pad x.f2.length) ++ rest) := by rw [e0, ← hlen, List.drop_left]
  have eN : numV (((headL x.f0 x.f1 (x.f2.length : Int)).take 135).drop 124) = ((x.f2.length : Int), true) := by rw [head_num hn]; exact numV_octS _ (by omega) (by omega)
  have eF : oneFile (headL x.f0 x.f1 (x.f2.length : Int)) (x.f2 ++ (zs (pad x.f2.length) ++ rest)) x.f2.length = x := by
    unfold oneFile
    rw [name_of h.1, str_nums, head_kind hn, kind_eq, List.take_left]
  unfold oneV
  rw [eH, eB, if_neg (by rw [head_sumOk hn]; decide), eN]
  simp only [Int.toNat_natCast]
  rw [eF, if_neg (by simp), if_neg (by rw [List.length_append, List.length_append, zs_len]; omega), if_neg (by rw [may_one h]; decide), if_neg (by rw [beq_self_eq_true]; decide)]
  have ez : ((x.f2 ++ (zs (pad x.f2.length) ++ rest)).take (blk x.f2.length * 512)).drop x.f2.length = zs (pad x.f2.length) := by
    rw [← hp, List.take_append, List.take_of_length_le (by omega), Nat.add_sub_cancel_left, List.drop_left, List.take_append_of_le_length (by rw [zs_len]; omega), List.take_of_length_le (by rw [zs_len]; omega)]
  have er : (x.f2 ++ (zs (pad x.f2.length) ++ rest)).drop (blk x.f2.length * 512) = rest := by
    rw [← hp, ← List.append_assoc]
    exact List.drop_left' (by rw [List.length_append, zs_len])
  rw [ez, er, if_neg (by rw [zeroB_zs]; decide)]
theorem split3 (B : List Int) (m q : Nat) (h : m ≤ q) : B.take m ++ ((B.take q).drop m ++ B.drop q) = B := by
  have h1 : (B.take q).drop m ++ B.drop q = B.drop m := by
    have h2 : B.drop q = (B.drop m).drop (q - m) := by rw [List.drop_drop]; congr 1; omega
    have h3 : (B.take q).drop m = (B.drop m).take (q - m) := by rw [List.drop_take]
    rw [h2, h3, List.take_append_drop]
  rw [h1, List.take_append_drop]
set_option maxHeartbeats 2000000 in
/-- What one gives back: why not, or a file whose bytes these are. -/
theorem one_says (l : List Int) (hb : okB l) : (oneV l = (⟨#[]⟩, false, [], [], 14) ∨ oneV l = badR) ∨ ∃ x rest, oneV l = (x.f0, x.f1, x.f2, rest, 0) ∧ okF x ∧ okB x.f2 ∧ l = fileB x ++ rest := by
  unfold oneV
  by_cases c1 : sumOk (l.take 512) = false
  · rw [if_pos c1]; exact .inl (.inl rfl)
  · rw [if_neg c1]
    generalize hq : numV (((l.take 512).take 135).drop 124) = q
    obtain ⟨qn, qb⟩ := q
    cases qb with
    | false => rw [if_pos rfl]; exact .inl (.inr rfl)
    | true =>
      rw [if_neg (by simp)]
      have hqb := numL_ok _ 0 qn hq (by omega) (by omega)
      obtain ⟨m, rfl⟩ := Int.eq_ofNat_of_zero_le hqb.1
      simp only [Int.toNat_natCast]
      by_cases c2 : (l.drop 512).length < blk m * 512
      · rw [if_pos c2]; exact .inl (.inr rfl)
      · rw [if_neg c2]
        generalize hX : oneFile (l.take 512) (l.drop 512) m = X
        by_cases c3 : mayV [X] ≠ 0
        · rw [if_pos c3]; exact .inl (.inr rfl)
        · rw [if_neg c3]
          by_cases c4 : ((strOfNums (headL X.f0 X.f1 (X.f2.length : Int))).toList == (strOfNums (l.take 512)).toList) = false
          · rw [if_pos c4]; exact .inl (.inr rfl)
          · rw [if_neg c4]
            by_cases c5 : zeroB (((l.drop 512).take (blk m * 512)).drop m) = false
            · rw [if_pos c5]; exact .inl (.inr rfl)
            · rw [if_neg c5]
              right
              have hmb := blk_le m
              have ok := one_may (Decidable.byContradiction c3)
              have e2 : X.f2 = (l.drop 512).take m := by rw [← hX]; rfl
              have hl2 : X.f2.length = m := by rw [e2, List.length_take]; omega
              have eH := (str_eq_iff (okB_head X.f0 X.f1 (X.f2.length : Int)) (okB_take hb 512)).1 (by simpa using c4)
              have ez := (zeroB_iff _).1 (by simpa using c5)
              have hlz : (((l.drop 512).take (blk m * 512)).drop m).length = pad m := by rw [List.length_drop, List.length_take]; unfold pad; omega
              rw [hlz] at ez
              refine ⟨X, _, rfl, ok, by rw [e2]; exact okB_take (okB_drop hb _) _, ?_⟩
              unfold fileB
              rw [hl2] at eH ⊢
              rw [eH, ← ez, e2]
              have s1 := split3 (l.drop 512) m (blk m * 512) hmb
              have s2 : l = l.take 512 ++ l.drop 512 := (List.take_append_drop 512 l).symm
              rw [List.append_assoc, List.append_assoc, s1, ← s2]
theorem one_f (l : List Int) (h1 : 512 ≤ l.length) (h2 : l.length ≤ 1000000000000) : tar_one.f l = some (oneV l) := by unfold tar_one.f; rw [if_neg (by omega), if_pos (by omega)]
theorem zero_f (l : List Int) : tar_zero.f l = some (zeroB l) := rfl
theorem nz_of {L : List Int} {i : Nat} {x : Int} (h : L[i]? = some x) (hx : x ≠ 0) : zeroB L = false := by
  rw [Bool.eq_false_iff]
  intro hz
  unfold zeroB at hz
  rw [List.all_eq_true] at hz
  have := hz x (List.mem_of_getElem? h)
  simp at this
  exact hx this
theorem head_nz {x : S44} (h : x.f0.size ≤ 99) : zeroB (headL x.f0 x.f1 (x.f2.length : Int)) = false :=
  nz_of (head_magic (name := x.f0) (dir := x.f1) (n := (x.f2.length : Int)) h).1 (by decide)
/-- Read of what was written. -/
theorem read_files (whole : Nat) (hw : whole ≤ 65536) : ∀ (d acc : List S44), (∀ x ∈ d, okF x) → acc.length + d.length ≤ 1000000 → 512 * costs d ≤ 1000000 → Ev (fun k => tar_Read.l0 k (bodyB d ++ zs 1024) (whole : Int) acc) (acc ++ d, 0)
  | [], acc, h, hl, hc => by
    refine Ev.step (f := fun _ => some (acc ++ [], 0)) (fun k => ?_) (Ev.now _)
    have e : bodyB [] ++ zs 1024 = zs 1024 := List.nil_append _
    have e2 : zeroB ((zs 1024).take 512) = true := by unfold zs; rw [List.take_replicate]; exact zeroB_zs _
    have e3 := zeroB_zs 1024
    have e4 := zs_len 1024
    generalize zs 1024 = Z at e e2 e3 e4
    rw [e, tar_Read.l0, e4, if_neg (by omega), if_pos (by omega), zero_f, Option.bind_some, e2, if_pos rfl, if_pos (by omega), zero_f, Option.bind_some, e3, if_pos rfl, if_neg (by omega), List.append_nil]
  | x :: d, acc, h, hl, hc => by
    have ok := h x (by simp)
    have hn := okF_name ok
    have hlen := headL_len x.f0 x.f1 (x.f2.length : Int) hn
    have hfl := fileB_len x hn
    have hok : ∀ y ∈ d, okF y := fun y hy => h y (by simp [hy])
    have hbd := bodyB_len d hok
    rw [costs_cons, cost_ok (by have := ok.2.2; omega)] at hc
    have hld : (x :: d).length = d.length + 1 := rfl
    have ih := read_files whole hw d (acc ++ [x]) hok (by rw [List.length_append]; simp; omega) (by omega)
    have e : bodyB (x :: d) ++ zs 1024 = fileB x ++ (bodyB d ++ zs 1024) := by rw [bodyB, List.append_assoc]
    have eH : (fileB x ++ (bodyB d ++ zs 1024)).take 512 = headL x.f0 x.f1 (x.f2.length : Int) := by
      have : fileB x ++ (bodyB d ++ zs 1024) = headL x.f0 x.f1 (x.f2.length : Int) ++ (x.f2 ++ zs (pad x.f2.length) ++ (bodyB d ++ zs 1024)) := by unfold fileB; simp [List.append_assoc]
      rw [this, ← hlen, List.take_left]
    have hL : (fileB x ++ (bodyB d ++ zs 1024)).length = 512 * (1 + blk x.f2.length) + (512 * costs d + 1024) := by rw [List.length_append, hfl, List.length_append, hbd, zs_len]
    have k1 : ¬ (((fileB x ++ (bodyB d ++ zs 1024)).length : Int) < 512) := by omega
    have k2 : 512 ≤ ((fileB x ++ (bodyB d ++ zs 1024)).length : Int) := by omega
    have k3 : acc.length < 2932031007402 := by omega
    have eo := one_f (fileB x ++ (bodyB d ++ zs 1024)) (by omega) (by omega)
    rw [one_file x ok] at eo
    have ea : acc ++ x :: d = acc ++ [x] ++ d := by simp
    rw [e, ea]
    refine Ev.step (fun k => ?_) ih
    rw [tar_Read.l0, if_neg k1, if_pos k2, eH, zero_f, Option.bind_some, head_nz hn, if_neg (by decide), eo, Option.bind_some, if_pos rfl, if_pos (by exact k3)]
/-- Read of any bytes. -/
theorem read_any (whole : Nat) : ∀ (N : Nat) (l : List Int) (acc : List S44), l.length ≤ N → N ≤ 1000000 → acc.length + N ≤ 2000000 → okB l →
    ∃ r : List S44 × Int, Ev (fun k => tar_Read.l0 k l (whole : Int) acc) r ∧ ((r.1 = [] ∧ (r.2 = 4 ∨ r.2 = 14)) ∨ (r.2 = 0 ∧ whole ≤ 65536 ∧ ∃ d, r.1 = acc ++ d ∧ l = bodyB d ++ zs 1024 ∧ ∀ x ∈ d, okF x ∧ okB x.f2)) := by
  intro N
  induction N with
  | zero =>
    intro l acc hl hN ha hb
    exact ⟨([], 4), Ev.step (f := fun _ => some ([], 4)) (fun k => by rw [tar_Read.l0, if_pos (by omega)]) (Ev.now _), .inl ⟨rfl, .inl rfl⟩⟩
  | succ N ih =>
    intro l acc hl hN ha hb
    by_cases c1 : l.length < 512
    · exact ⟨([], 4), Ev.step (f := fun _ => some ([], 4)) (fun k => by rw [tar_Read.l0, if_pos (by omega)]) (Ev.now _), .inl ⟨rfl, .inl rfl⟩⟩
    · have k1 : ¬ ((l.length : Int) < 512) := by omega
      have k2 : 512 ≤ (l.length : Int) := by omega
      by_cases c2 : zeroB (l.take 512) = true
      · by_cases c3 : l.length = 1024
        · by_cases c4 : zeroB l = true
          · by_cases c5 : 65536 < whole
            · refine ⟨([], 4), Ev.step (f := fun _ => some ([], 4)) (fun k => ?_) (Ev.now _), .inl ⟨rfl, .inl rfl⟩⟩
              rw [tar_Read.l0, if_neg k1, if_pos k2, zero_f, Option.bind_some, c2, if_pos rfl, if_pos (by omega), zero_f, Option.bind_some, c4, if_pos rfl, if_pos (by omega)]
            · refine ⟨(acc, 0), Ev.step (f := fun _ => some (acc, 0)) (fun k => ?_) (Ev.now _), .inr ⟨rfl, by omega, [], by simp, ?_, by simp⟩⟩
              · rw [tar_Read.l0, if_neg k1, if_pos k2, zero_f, Option.bind_some, c2, if_pos rfl, if_pos (by omega), zero_f, Option.bind_some, c4, if_pos rfl, if_neg (by omega)]
              · have := (zeroB_iff l).1 c4
                rw [c3] at this
                exact this
          · refine ⟨([], 4), Ev.step (f := fun _ => some ([], 4)) (fun k => ?_) (Ev.now _), .inl ⟨rfl, .inl rfl⟩⟩
            rw [tar_Read.l0, if_neg k1, if_pos k2, zero_f, Option.bind_some, c2, if_pos rfl, if_pos (by omega), zero_f, Option.bind_some, if_neg c4]
        · refine ⟨([], 4), Ev.step (f := fun _ => some ([], 4)) (fun k => ?_) (Ev.now _), .inl ⟨rfl, .inl rfl⟩⟩
          rw [tar_Read.l0, if_neg k1, if_pos k2, zero_f, Option.bind_some, c2, if_pos rfl, if_neg (by omega)]
      · have c2' : zeroB (l.take 512) = false := by simpa using c2
        have eo := one_f l (by omega) (by omega)
        rcases one_says l hb with (h | h) | ⟨x, rest, h, ok, okb, hlr⟩
        · rw [h] at eo
          refine ⟨([], 14), Ev.step (f := fun _ => some ([], 14)) (fun k => ?_) (Ev.now _), .inl ⟨rfl, .inr rfl⟩⟩
          rw [tar_Read.l0, if_neg k1, if_pos k2, zero_f, Option.bind_some, c2', if_neg (by decide), eo, Option.bind_some, if_neg (by decide)]
        · rw [h] at eo
          refine ⟨([], 4), Ev.step (f := fun _ => some ([], 4)) (fun k => ?_) (Ev.now _), .inl ⟨rfl, .inl rfl⟩⟩
          rw [tar_Read.l0, if_neg k1, if_pos k2, zero_f, Option.bind_some, c2', if_neg (by decide), eo, Option.bind_some, if_neg (by decide)]
          rfl
        · rw [h] at eo
          have hfl := fileB_len x (okF_name ok)
          have hlen : l.length = 512 * (1 + blk x.f2.length) + rest.length := by rw [hlr, List.length_append, hfl]
          have hbr : okB rest := fun y hy => hb y (by rw [hlr]; exact List.mem_append.2 (.inr hy))
          obtain ⟨r, hr, hP⟩ := ih rest (acc ++ [x]) (by omega) (by omega) (by rw [List.length_append]; simp; omega) hbr
          have k3 : acc.length < 2932031007402 := by omega
          refine ⟨r, Ev.step (fun k => ?_) hr, ?_⟩
          · rw [tar_Read.l0, if_neg k1, if_pos k2, zero_f, Option.bind_some, c2', if_neg (by decide), eo, Option.bind_some, if_pos rfl, if_pos (by exact k3)]
          · rcases hP with hP | ⟨h0, hw, d, h1, h2, h3⟩
            · exact .inl hP
            · refine .inr ⟨h0, hw, x :: d, by rw [h1]; simp, by rw [bodyB, List.append_assoc, ← h2]; exact hlr, fun y hy => ?_⟩
              rcases List.mem_cons.1 hy with rfl | hy
              · exact ⟨ok, okb⟩
              · exact h3 y hy
end Go.Proofs.YtlnogacjebbepaaDoor.H
