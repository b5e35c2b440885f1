/- Programs as bytes: what is written is read; what is read is written. -/
import Derived.Test.YtckmgoeflecpgaaDoorProgL
namespace Go.Proofs.YtckmgoeflecpgaaDoor.L
set_option linter.unusedVariables false
set_option linter.unusedSimpArgs false
open Go.RowKit Go.Proofs.YtckmgoeflecpgaaDoor.I Go.Proofs.YtckmgoeflecpgaaDoor.G Go.Proofs.YtckmgoeflecpgaaDoor.P Go.Proofs.YtckmgoeflecpgaaDoorW.PrintWords Go.Proofs.YtckmgoeflecpgaaDoorW.PrintLast Go.Proofs.YtckmgoeflecpgaaDoorW.PrintMore
def nb (s : ByteArray) : List Int := (s.size : Int) % 256 :: bytesOf s
def ib (i : S41) : List Int := [i.f0 % 256, i.f1 / 256 % 256, i.f1 % 256]
def encB (L : List S41) (N : List ByteArray) : List Int := [88, 82, (N.length : Int) % 256] ++ N.flatMap nb ++ [(L.length : Int) % 256] ++ L.flatMap ib
def bytesV (L : List S41) (N : List ByteArray) : List Int × Int := if mayV L N = 0 then (encB L N, 0) else ([], mayV L N)
theorem may0 {L : List S41} {N : List ByteArray} (h : mayV L N = 0) : L.length ≤ 96 ∧ N.length ≤ 8 ∧ (∀ s ∈ N, s.size ≤ 255) ∧ (∀ i ∈ L, mayI i.f0 i.f1 = true) := by
  unfold mayV at h
  split at h
  · cases h
  · next h1 =>
    split at h
    · cases h
    · next h2 =>
      split at h
      · next h3 =>
        refine ⟨by omega, by omega, fun s hs => ?_, fun i hi => List.all_eq_true.1 h3 i hi⟩
        have : decide (255 < s.size) = false := by
          rw [Bool.eq_false_iff]
          exact fun hh => h2 (List.any_eq_true.2 ⟨s, hs, hh⟩)
        have := of_decide_eq_false this
        omega
      · cases h
theorem may0' {L : List S41} {N : List ByteArray} (h1 : L.length ≤ 96) (h2 : N.length ≤ 8) (h3 : ∀ s ∈ N, s.size ≤ 255) (h4 : ∀ i ∈ L, mayI i.f0 i.f1 = true) : mayV L N = 0 := by
  unfold mayV
  rw [if_neg (by omega), if_neg, if_pos (show opsV L = true from List.all_eq_true.2 h4)]
  intro h
  obtain ⟨s, hs, hh⟩ := List.any_eq_true.1 h
  have := of_decide_eq_true hh
  have := h3 s hs
  omega
theorem kinds_as : ∀ k ∈ kinds, 1 ≤ k.2.2 ∧ k.2.2 ≤ 65536 := by
  have : kinds.all (fun k => decide (1 ≤ k.2.2) && decide (k.2.2 ≤ 65536)) = true := by kernel_rfl
  intro k hk
  have h := List.all_eq_true.1 this k hk
  rw [Bool.and_eq_true] at h
  exact ⟨of_decide_eq_true h.1, of_decide_eq_true h.2⟩
theorem may_range {op x : Int} (h : mayI op x = true) : 1 ≤ op ∧ op ≤ 41 ∧ 0 ≤ x ∧ x < 65536 ∧ 1 ≤ (kindOf op).2.2 := by
  unfold mayI at h
  rw [Bool.and_eq_true, Bool.and_eq_true] at h
  obtain ⟨h1, h2, h3⟩ := h
  have h3 := of_decide_eq_true h3
  have h2 := of_decide_eq_true h2
  have hk : kindOf op ∈ kinds := by
    unfold kindOf
    rw [if_pos h1]
    unfold inR at h1
    rw [Bool.and_eq_true] at h1
    have a := of_decide_eq_true h1.1
    have b := of_decide_eq_true h1.2
    have hl : (op - 1).toNat < kinds.length := by show _ < 41; omega
    rw [List.getD_eq_getElem?_getD, List.getElem?_eq_getElem hl]
    exact List.getElem_mem _
  have := kinds_as _ hk
  unfold inR at h1
  rw [Bool.and_eq_true] at h1
  exact ⟨of_decide_eq_true h1.1, of_decide_eq_true h1.2, h2, by omega, this.1⟩
theorem str_nums (s : ByteArray) : strOfNums (bytesOf s) = s := by
  have e : (strOfNums (bytesOf s)).data.toList = s.data.toList := by
    rw [strOfNums_data]
    unfold bytesOf
    rw [List.map_map]
    have : ((fun n : Int => UInt8.ofNat n.toNat) ∘ fun b : UInt8 => (b.toNat : Int)) = id := by
      funext b
      simp
    rw [this, List.map_id]
  obtain ⟨d⟩ := s
  have : (strOfNums (bytesOf ⟨d⟩)).data = d := by
    apply Array.ext'
    exact e
  exact congrArg ByteArray.mk this
theorem bytesOf_str {l : List Int} (h : okB l) : bytesOf (strOfNums l) = l := by
  unfold bytesOf
  rw [strOfNums_data, List.map_map]
  conv => rhs; rw [← List.map_id l]
  refine List.map_congr_left fun x hx => ?_
  have := h x hx
  show ((UInt8.ofNat x.toNat).toNat : Int) = x
  rw [UInt8.toNat_ofNat']
  omega
theorem okB_bytesOf (s : ByteArray) : okB (bytesOf s) := fun x hx => by
  unfold bytesOf at hx
  obtain ⟨b, _, rfl⟩ := List.mem_map.1 hx
  have := b.toNat_lt
  omega
/-! ### written, then read -/
theorem take_app (a r : List Int) : takeS a.length (a ++ r, false) = (a, (r, false)) := by
  unfold takeS
  rw [if_neg (by rw [List.length_append]; rintro (h | h); cases h; omega), List.take_left', List.drop_left'] <;> rfl
theorem take_app' (a r : List Int) (n : Nat) (h : a.length = n) : takeS n (a ++ r, false) = (a, (r, false)) := by
  subst h
  exact take_app a r
theorem one_app (x : Int) (r : List Int) : oneS (x :: r, false) = (x, (r, false)) := by
  have := take_app' [x] r 1 rfl
  unfold oneS
  rw [show (x :: r) = [x] ++ r from rfl, this]
  rfl
theorem names_app (r : List Int) : ∀ (N acc : List ByteArray), (∀ s ∈ N, s.size ≤ 255) → namesS N.length (N.flatMap nb ++ r, false) acc = (acc ++ N, (r, false))
  | [], acc, _ => by rw [List.append_nil]; rfl
  | s :: N, acc, h => by
    have hs := h s List.mem_cons_self
    have e : (s :: N).flatMap nb ++ r = ((s.size : Int) % 256) :: (bytesOf s ++ (N.flatMap nb ++ r)) := by
      rw [List.flatMap_cons]
      unfold nb
      rw [List.cons_append, List.cons_append, List.append_assoc]
    rw [List.length_cons, e, namesS, one_app]
    dsimp only
    rw [take_app' (bytesOf s) _ _ (by rw [bytesOf_length]; omega)]
    dsimp only
    rw [str_nums, names_app r N _ (fun x hx => h x (List.mem_cons_of_mem _ hx)), List.append_assoc]
    rfl
theorem inst_of {i : S41} (h : mayI i.f0 i.f1 = true) : instOf (ib i) = i := by
  obtain ⟨h1, h2, h3, h4, _⟩ := may_range h
  obtain ⟨a, b⟩ := i
  dsimp only at h1 h2 h3 h4
  show (⟨a % 256, b / 256 % 256 * 256 + b % 256⟩ : S41) = ⟨a, b⟩
  rw [show a % 256 = a by omega, show b / 256 % 256 * 256 + b % 256 = b by omega]
theorem insts_app (r : List Int) : ∀ (L acc : List S41), (∀ i ∈ L, mayI i.f0 i.f1 = true) → instS L.length (L.flatMap ib ++ r, false) acc = (acc ++ L, (r, false))
  | [], acc, _ => by rw [List.append_nil]; rfl
  | i :: L, acc, h => by
    rw [List.length_cons, List.flatMap_cons, List.append_assoc, instS, take_app' (ib i) _ 3 rfl]
    dsimp only
    rw [inst_of (h i List.mem_cons_self), insts_app r L _ (fun x hx => h x (List.mem_cons_of_mem _ hx)), List.append_assoc]
    rfl
theorem read_enc (L : List S41) (N : List ByteArray) (h : mayV L N = 0) : readV (encB L N) = (L, N, 0) := by
  obtain ⟨h1, h2, h3, h4⟩ := may0 h
  have e : encB L N = 88 :: 82 :: ((N.length : Int) % 256) :: (N.flatMap nb ++ (((L.length : Int) % 256) :: (L.flatMap ib ++ []))) := by
    unfold encB
    simp
  unfold readV
  rw [e, one_app, one_app]
  unfold headV
  rw [if_neg (by rintro (h | h | h) <;> simp at h)]
  unfold bodyV
  rw [one_app]
  dsimp only
  rw [show ((N.length : Int) % 256).toNat = N.length by omega, names_app _ N [] h3]
  unfold tail2
  dsimp only
  rw [one_app]
  dsimp only
  rw [show ((L.length : Int) % 256).toNat = L.length by omega, insts_app _ L [] h4]
  unfold finV
  rw [if_neg (by rintro (h | h) <;> simp at h), List.nil_append, List.nil_append, h, if_neg (by simp)]
/-! ### read, then written -/
theorem take_back {m : Nat} {s : St} (h : (takeS m s).2.2 = false) : s.2 = false ∧ s.1 = (takeS m s).1 ++ (takeS m s).2.1 ∧ (takeS m s).1.length = m := by
  have hl := takeS_len m s
  unfold takeS at *
  split at h
  · cases h
  · next hc =>
    rw [if_neg hc] at hl ⊢
    refine ⟨?_, (List.take_append_drop m s.1).symm, hl⟩
    cases hb : s.2
    · rfl
    · exact absurd (.inl hb) hc
theorem one_back {s : St} (h : (oneS s).2.2 = false) : s.2 = false ∧ s.1 = (oneS s).1 :: (oneS s).2.1 := by
  obtain ⟨h1, h2, h3⟩ := take_back (m := 1) h
  refine ⟨h1, ?_⟩
  rw [h2]
  unfold oneS
  generalize (takeS 1 s).1 = l at *
  match l, h3 with
  | [x], _ => rfl
theorem names_back : ∀ (k : Nat) (s : St) (acc : List ByteArray), okB s.1 → (namesS k s acc).2.2 = false →
    ∃ N, (namesS k s acc).1 = acc ++ N ∧ N.length = k ∧ s.2 = false ∧ s.1 = N.flatMap nb ++ (namesS k s acc).2.1 ∧ (∀ x ∈ N, x.size ≤ 255) ∧ okB (namesS k s acc).2.1
  | 0, s, acc, ho, h => ⟨[], by simp [namesS], rfl, h, by simp [namesS], (fun _ hx => by cases hx), ho⟩
  | k + 1, s, acc, ho, h => by
    rw [namesS] at h ⊢
    have o1 := oneS_ok s ho
    have o2 := okB_take (oneS s).1.toNat (oneS s).2 o1.2.2
    obtain ⟨N, e1, e2, e3, e4, e5, e6⟩ := names_back k (takeS (oneS s).1.toNat (oneS s).2).2 _ o2.2 h
    obtain ⟨t1, t2, t3⟩ := take_back e3
    obtain ⟨u1, u2⟩ := one_back t1
    generalize (takeS (oneS s).1.toNat (oneS s).2).1 = B at *
    have hsz : (strOfNums B).size = B.length := strOfNums_size B
    refine ⟨strOfNums B :: N, by rw [e1, List.append_assoc]; rfl, by rw [List.length_cons, e2], u1, ?_, ?_, e6⟩
    · rw [u2, t2, e4, List.flatMap_cons, nb, bytesOf_str o2.1, hsz, t3]
      rw [show (((oneS s).1.toNat : Nat) : Int) % 256 = (oneS s).1 by omega]
      simp
    · intro x hx
      rcases List.mem_cons.1 hx with rfl | hx
      · rw [hsz, t3]; omega
      · exact e5 x hx
theorem insts_back : ∀ (k : Nat) (s : St) (acc : List S41), okB s.1 → (instS k s acc).2.2 = false →
    ∃ L, (instS k s acc).1 = acc ++ L ∧ L.length = k ∧ s.2 = false ∧ s.1 = L.flatMap ib ++ (instS k s acc).2.1
  | 0, s, acc, ho, h => ⟨[], by simp [instS], rfl, h, by simp [instS]⟩
  | k + 1, s, acc, ho, h => by
    rw [instS] at h ⊢
    have o2 := okB_take 3 s ho
    obtain ⟨L, e1, e2, e3, e4⟩ := insts_back k (takeS 3 s).2 _ o2.2 h
    obtain ⟨t1, t2, t3⟩ := take_back e3
    generalize (takeS 3 s).1 = B at *
    refine ⟨instOf B :: L, by rw [e1, List.append_assoc]; rfl, by rw [List.length_cons, e2], t1, ?_⟩
    rw [t2, e4, List.flatMap_cons]
    match B, t3 with
    | [b0, b1, b2], _ =>
      have g0 := o2.1 b0 (by simp)
      have g1 := o2.1 b1 (by simp)
      have g2 := o2.1 b2 (by simp)
      have : ib (instOf [b0, b1, b2]) = [b0, b1, b2] := by
        show [b0 % 256, (b1 * 256 + b2) / 256 % 256, (b1 * 256 + b2) % 256] = _
        rw [show b0 % 256 = b0 by omega, show (b1 * 256 + b2) / 256 % 256 = b1 by omega, show (b1 * 256 + b2) % 256 = b2 by omega]
      rw [this, List.append_assoc]
/-- What Read says: the bytes of a program; or no form; or a form of what is none. -/
theorem read_cases (b : List Int) (ok : okB b) : (∃ L N, readV b = (L, N, 0) ∧ mayV L N = 0 ∧ encB L N = b) ∨ readV b = ([], [], 4) ∨ readV b = ([], [], 3) ∨ readV b = ([], [], 5) := by
  unfold readV
  generalize hx : oneS (b, false) = x
  generalize hy : oneS x.2 = y
  unfold headV
  by_cases hc : y.2.2 = true ∨ x.1 ≠ 88 ∨ y.1 ≠ 82
  · rw [if_pos hc]; exact .inr (.inl rfl)
  · rw [if_neg hc]
    have c1 : y.2.2 = false := by cases h : y.2.2; rfl; exact absurd (.inl h) hc
    have c2 : x.1 = 88 := Decidable.byContradiction fun h => hc (.inr (.inl h))
    have c3 : y.1 = 82 := Decidable.byContradiction fun h => hc (.inr (.inr h))
    subst hy
    obtain ⟨p1, p2⟩ := one_back c1
    subst hx
    obtain ⟨p3, p4⟩ := one_back p1
    have o1 := oneS_ok (b, false) ok
    have o2 := oneS_ok (oneS (b, false)).2 o1.2.2
    generalize (oneS (oneS (b, false)).2).2 = s at *
    rw [c2, p2, c3] at p4
    have o3 := oneS_ok s o2.2.2
    unfold bodyV
    generalize hn : namesS (oneS s).1.toNat (oneS s).2 [] = n
    unfold tail2
    generalize hi : instS (oneS n.2).1.toNat (oneS n.2).2 [] = m
    unfold finV
    by_cases hf : m.2.2 = true ∨ 0 < m.2.1.length
    · rw [if_pos hf]; exact .inr (.inl rfl)
    · rw [if_neg hf]
      have d1 : m.2.2 = false := by cases h : m.2.2; rfl; exact absurd (.inl h) hf
      have d2 : m.2.1 = [] := List.length_eq_zero_iff.1 (by have : ¬ 0 < m.2.1.length := fun h => hf (.inr h); omega)
      subst hi
      -- the names
      have hnb : ∀ (ho : okB n.2.1), (oneS n.2).2.2 = false → n.2.2 = false ∧ n.2.1 = (oneS n.2).1 :: (oneS n.2).2.1 := fun _ h => one_back h
      have key : okB n.2.1 → ∃ L, (instS (oneS n.2).1.toNat (oneS n.2).2 []).1 = L ∧ L.length = (oneS n.2).1.toNat ∧ n.2.2 = false ∧ n.2.1 = (oneS n.2).1 :: L.flatMap ib := by
        intro ho
        obtain ⟨L, e1, e2, e3, e4⟩ := insts_back _ _ _ (oneS_ok n.2 ho).2.2 d1
        obtain ⟨q1, q2⟩ := one_back e3
        rw [d2, List.append_nil] at e4
        exact ⟨L, by rw [e1]; rfl, e2, q1, by rw [q2, e4]⟩
      have hno : okB n.2.1 ∧ n.2.2 = n.2.2 := by
        refine ⟨?_, rfl⟩
        subst hn
        have : ∀ (k : Nat) (s : St) (acc : List ByteArray), okB s.1 → okB (namesS k s acc).2.1 := by
          intro k
          induction k with
          | zero => exact fun s acc h => h
          | succ k ih => exact fun s acc h => by rw [namesS]; exact ih _ _ (okB_take _ _ (oneS_ok s h).2.2).2
        exact this _ _ _ o3.2.2
      obtain ⟨L, l1, l2, l3, l4⟩ := key hno.1
      have om := oneS_ok n.2 hno.1
      subst hn
      obtain ⟨N, n1, n2, n3, n4, n5, n6⟩ := names_back _ _ _ o3.2.2 l3
      obtain ⟨r1, r2⟩ := one_back n3
      rw [l1, n1, List.nil_append]
      have hb : encB L N = b := by
        show _ = (b, false).1
        rw [p4, r2, n4, l4]
        unfold encB
        rw [n2, l2, show (((oneS s).1.toNat : Nat) : Int) % 256 = (oneS s).1 by omega]
        generalize (namesS (oneS s).1.toNat (oneS s).2 []).2 = q at *
        rw [show (((oneS q).1.toNat : Nat) : Int) % 256 = (oneS q).1 by omega]
        simp
      by_cases hm : mayV L N = 0
      · rw [if_neg (by simp [hm])]
        exact .inl ⟨L, N, rfl, hm, hb⟩
      · rw [if_pos hm]
        right; right
        have hl : longV N = false := by
          rw [Bool.eq_false_iff]
          intro h
          obtain ⟨s, hs, hh⟩ := List.any_eq_true.1 h
          have := of_decide_eq_true hh
          have := n5 s hs
          omega
        unfold mayV at hm ⊢
        split at hm
        · next h => rw [if_pos h]; exact .inl rfl
        · next h =>
          rw [if_neg h]
          rw [hl] at hm ⊢
          rw [if_neg (by simp)] at hm ⊢
          split at hm
          · exact absurd rfl hm
          · next h5 => rw [if_neg h5]; exact .inr rfl
/-! ### what is longer -/
theorem take_more (q : List Int) (m : Nat) (s : St) (h : (takeS m s).2.2 = false) : takeS m (s.1 ++ q, s.2) = ((takeS m s).1, ((takeS m s).2.1 ++ q, false)) := by
  obtain ⟨h1, h2, h3⟩ := take_back h
  rw [h1]
  conv => lhs; rw [h2, List.append_assoc]
  exact take_app' _ _ _ h3
theorem one_more (q : List Int) (s : St) (h : (oneS s).2.2 = false) : oneS (s.1 ++ q, s.2) = ((oneS s).1, ((oneS s).2.1 ++ q, false)) := by
  unfold oneS at *
  rw [take_more q 1 s h]
theorem names_bad : ∀ (k : Nat) (s : St) (acc : List ByteArray), s.2 = true → (namesS k s acc).2.2 = true
  | 0, s, acc, h => h
  | k + 1, s, acc, h => by
    rw [namesS]
    refine names_bad k _ _ ?_
    have : ∀ (m : Nat) (s : St), s.2 = true → (takeS m s).2.2 = true := fun m s h => by unfold takeS; rw [if_pos (.inl h)]
    exact this _ _ (this 1 s h)
theorem insts_bad : ∀ (k : Nat) (s : St) (acc : List S41), s.2 = true → (instS k s acc).2.2 = true
  | 0, s, acc, h => h
  | k + 1, s, acc, h => by
    rw [instS]
    refine insts_bad k _ _ ?_
    unfold takeS
    rw [if_pos (.inl h)]
theorem names_more (q : List Int) : ∀ (k : Nat) (s : St) (acc : List ByteArray), (namesS k s acc).2.2 = false → namesS k (s.1 ++ q, s.2) acc = ((namesS k s acc).1, ((namesS k s acc).2.1 ++ q, false))
  | 0, s, acc, h => by
    have h : s.2 = false := h
    show (acc, (s.1 ++ q, s.2)) = _
    rw [h]
    rfl
  | k + 1, s, acc, h => by
    rw [namesS] at h ⊢
    have h2 : (takeS (oneS s).1.toNat (oneS s).2).2.2 = false := by
      cases hb : (takeS (oneS s).1.toNat (oneS s).2).2.2
      · rfl
      · rw [names_bad _ _ _ hb] at h; cases h
    have h1 := (take_back h2).1
    rw [one_more q s h1]
    dsimp only
    have h3 := take_more q (oneS s).1.toNat (oneS s).2 h2
    rw [h1] at h3
    rw [h3]
    have := names_more q k (takeS (oneS s).1.toNat (oneS s).2).2 (acc ++ [strOfNums (takeS (oneS s).1.toNat (oneS s).2).1]) h
    rw [h2] at this
    rw [this, namesS]
theorem insts_more (q : List Int) : ∀ (k : Nat) (s : St) (acc : List S41), (instS k s acc).2.2 = false → instS k (s.1 ++ q, s.2) acc = ((instS k s acc).1, ((instS k s acc).2.1 ++ q, false))
  | 0, s, acc, h => by
    have h : s.2 = false := h
    show (acc, (s.1 ++ q, s.2)) = _
    rw [h]
    rfl
  | k + 1, s, acc, h => by
    rw [instS] at h ⊢
    have h2 : (takeS 3 s).2.2 = false := by
      cases hb : (takeS 3 s).2.2
      · rfl
      · rw [insts_bad _ _ _ hb] at h; cases h
    rw [take_more q 3 s h2]
    have := insts_more q k (takeS 3 s).2 (acc ++ [instOf (takeS 3 s).1]) h
    rw [h2] at this
    rw [this, instS]
/-- Bytes that are read, with more behind: no form. -/
theorem read_more (b q : List Int) (hq : q ≠ []) (h : readV b ≠ ([], [], 4)) : readV (b ++ q) = ([], [], 4) := by
  unfold readV at *
  unfold headV at h
  by_cases hc : (oneS (oneS (b, false)).2).2.2 = true ∨ (oneS (b, false)).1 ≠ 88 ∨ (oneS (oneS (b, false)).2).1 ≠ 82
  · rw [if_pos hc] at h; exact absurd rfl h
  · rw [if_neg hc] at h
    have c1 : (oneS (oneS (b, false)).2).2.2 = false := by cases h : (oneS (oneS (b, false)).2).2.2; rfl; exact absurd (.inl h) hc
    have c0 := (one_back c1).1
    have e1 := one_more q (b, false) c0
    have e2 := one_more q (oneS (b, false)).2 c1
    rw [c0] at e2
    dsimp only at e1
    rw [e1]
    dsimp only
    rw [e2]
    dsimp only
    unfold headV
    rw [if_neg (by rintro (h | h | h); cases h; exact hc (.inr (.inl h)); exact hc (.inr (.inr h)))]
    generalize (oneS (oneS (b, false)).2).2 = s at *
    unfold bodyV at h ⊢
    unfold tail2 at h ⊢
    unfold finV at h
    split at h
    · exact absurd rfl h
    · next hf =>
      have d1 : (instS (oneS (namesS (oneS s).1.toNat (oneS s).2 []).2).1.toNat (oneS (namesS (oneS s).1.toNat (oneS s).2 []).2).2 []).2.2 = false := by
        cases h : (instS (oneS (namesS (oneS s).1.toNat (oneS s).2 []).2).1.toNat (oneS (namesS (oneS s).1.toNat (oneS s).2 []).2).2 []).2.2
        · rfl
        · exact absurd (.inl h) hf
      have ib_ : ∀ (k : Nat) (s : St) (acc : List S41), (instS k s acc).2.2 = false → s.2 = false := fun k s acc h => by
        cases hb : s.2
        · rfl
        · rw [insts_bad _ _ _ hb] at h; cases h
      have nb_ : ∀ (k : Nat) (s : St) (acc : List ByteArray), (namesS k s acc).2.2 = false → s.2 = false := fun k s acc h => by
        cases hb : s.2
        · rfl
        · rw [names_bad _ _ _ hb] at h; cases h
      have d2 := ib_ _ _ _ d1
      have d3 := (one_back d2).1
      have d4 := nb_ _ _ _ d3
      have f1 := one_more q s d4
      rw [c1] at f1
      rw [f1]
      dsimp only
      have f2 := names_more q (oneS s).1.toNat (oneS s).2 [] d3
      rw [d4] at f2
      rw [f2]
      dsimp only
      generalize namesS (oneS s).1.toNat (oneS s).2 [] = n at *
      have f3 := one_more q n.2 d2
      rw [d3] at f3
      rw [f3]
      dsimp only
      have f4 := insts_more q (oneS n.2).1.toNat (oneS n.2).2 [] d1
      rw [d2] at f4
      rw [f4]
      unfold finV
      rw [if_pos (.inr (by
        dsimp only
        rw [List.length_append]
        have : 0 < q.length := List.length_pos_iff.2 hq
        omega))]
/-- Bytes of a program that are cut: no form. -/
theorem read_cut (L : List S41) (N : List ByteArray) (h : mayV L N = 0) (k : Nat) (hk : k < (encB L N).length) : readV ((encB L N).take k) = ([], [], 4) := by
  by_cases hr : readV ((encB L N).take k) = ([], [], 4)
  · exact hr
  · have h1 := read_more ((encB L N).take k) ((encB L N).drop k) (by
      intro h
      have := List.drop_eq_nil_iff.1 h
      omega) hr
    rw [List.take_append_drop, read_enc L N h] at h1
    cases h1
end Go.Proofs.YtckmgoeflecpgaaDoor.L
