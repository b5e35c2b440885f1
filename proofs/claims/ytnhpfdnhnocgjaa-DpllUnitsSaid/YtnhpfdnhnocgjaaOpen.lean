/- What came in, read at its type: each kind of value (numbers, bools, texts, slices, structs, arrays of two) opened once and for all. A text of this session, laid for each seat by a program (the seat's name put in). -/
import Derived.Test.YtnhpfdnhnocgjaaWWords
import Derived.SizedLaws
import Derived.Deep.Slices
import Derived.OpenShut
namespace Go.Proofs.Ytnhpfdnhnocgjaa.Open
open Go Go.RowKit Go.Deep Go.WideShapes Go.Proofs.YtnhpfdnhnocgjaaW.PrintWords

/-- A value of type t that came in reads as one of kind d, and φ holds of it. -/
def Opens {α : Type} (P : Program) (t : TypeId) (d : Kd α) (φ : α → Prop) : Prop :=
  d.sz = P.cellsOf t ∧ ∀ (H : Type) (enc : TypeId × Value → H) (w : World) (fuel : Nat) (cs : List Value) (x : DataW H × List MemPlace),
    DataW.trod enc P w 0 (fun _ => true) true fuel t cs = some x → (∀ n ∈ x.1.weights P t, n ≤ reachBytes) → ∃ a, d.K w a cs ∧ φ a

theorem Opens.int {P : Program} {t : TypeId} {k : IntKind} (ht : P.underlying t = some (.int k)) (hc : P.cellsOf t = 1) : Opens P t (Kd.int k) (fun n => (Lit.int k n).wf = true) :=
  ⟨hc.symm, fun H enc w fuel cs x h _ => by
    obtain ⟨n, rfl, _, hw⟩ := DataW.trod_int ht h
    exact ⟨n, rfl, hw⟩⟩
theorem Opens.bool {P : Program} {t : TypeId} (ht : P.underlying t = some .bool) (hc : P.cellsOf t = 1) : Opens P t Kd.bool (fun _ => True) :=
  ⟨hc.symm, fun H enc w fuel cs x h _ => by
    obtain ⟨b, rfl, _⟩ := DataW.trod_bool ht h
    exact ⟨b, rfl, trivial⟩⟩
theorem Opens.string {P : Program} {t : TypeId} (ht : P.underlying t = some .string) (hc : P.cellsOf t = 1) : Opens P t Kd.string (fun s => s.size ≤ 140737488351232) :=
  ⟨hc.symm, fun H enc w fuel cs x h hw => by
    obtain ⟨s, rfl, rfl, _⟩ := DataW.trod_string ht h
    have := hw s.data.toList.length (by simp [DataW.weights])
    have e : s.data.toList.length = s.size := Array.length_toList
    rw [e] at this
    exact ⟨s, rfl, this⟩⟩

theorem weights_in_all {H : Type} {P : Program} {e : TypeId} : ∀ {l : List (DataW H)} {y : DataW H}, y ∈ l → ∀ n ∈ y.weights P e, n ∈ DataW.weightsAll P e l
  | z :: l, y, hy, n, hn => by
    simp only [DataW.weightsAll, List.mem_append]
    rcases List.mem_cons.1 hy with rfl | hy
    · exact .inl hn
    · exact .inr (weights_in_all hy n hn)

theorem Opens.slice {α : Type} {P : Program} {t e : TypeId} {d : Kd α} {φ : α → Prop} {B : Nat} (ht : P.underlying t = some (.slice e)) (hc : P.cellsOf t = 1) (hB : P.bytesOf e = B) (hE : Opens P e d φ) :
    Opens P t (Kd.slice e d) (fun l => l.length * B ≤ 140737488351232 ∧ l.length ≤ 9223372036854775807 ∧ ∀ x ∈ l, φ x) :=
  ⟨hc.symm, fun H enc w fuel cs x h hw => by
    rcases open_slice ht h with ⟨rfl, rfl⟩ | ⟨a, len, cap, m, n, D, Pl, rfl, hb, hl, hm, hmm, rfl, hx⟩
    · exact ⟨[], ⟨none, 0, rfl, Nat.le_refl _, Kd.C_nil d w⟩, by simp, by simp, fun x hx => by simp at hx⟩
    · have hmc : m = cap := by simpa using hmm
      subst hmc
      have wt : ∀ n, n ∈ ((((List.range len).map D).length + ((List.range (m - len)).map fun j => D (len + j)).length) * P.bytesOf e :: (DataW.weightsAll P e ((List.range len).map D) ++ DataW.weightsAll P e ((List.range (m - len)).map fun j => D (len + j)))) → n ≤ reachBytes := by
        intro n hn
        refine hw n ?_
        simp only [DataW.weights, ht]
        exact hn
      have ex : ∀ i : Fin len, ∃ p : α × List Value, w.cells? 0 (a.add (i.val * P.cellsOf e)) (P.cellsOf e) = some p.2 ∧ d.K w p.1 p.2 ∧ φ p.1 := by
        intro i
        obtain ⟨cs', h1, h2⟩ := hx i.val (by omega)
        obtain ⟨p, hp, hf⟩ := hE.2 H enc w n cs' _ h2 (fun q hq => wt q (List.mem_cons_of_mem _ (List.mem_append_left _ (weights_in_all (List.mem_map.2 ⟨i.val, by simp, rfl⟩) q hq))))
        exact ⟨(p, cs'), h1, hp, hf⟩
      have hcap : len ≤ 9223372036854775807 := by unfold maxLen at hm; omega
      refine ⟨List.ofFn (fun i => (ex i).choose.1), ⟨some a, m, ?_, ?_, ?_⟩, ?_, ?_, ?_⟩
      · rw [List.length_ofFn]
      · rw [List.length_ofFn]; exact hl
      · refine ⟨rfl, by rw [List.length_ofFn]; exact hcap, fun _ => ⟨a, rfl, fun j p hj => ?_⟩⟩
        have hjl : j < len := by
          have := (List.getElem?_eq_some_iff.1 hj).1
          rwa [List.length_ofFn] at this
        rw [List.getElem?_ofFn, dif_pos hjl] at hj
        obtain rfl := Option.some.inj hj
        obtain ⟨h1, h2, h3⟩ := (ex ⟨j, hjl⟩).choose_spec
        obtain ⟨_, hlen, hcell⟩ := World.cells?_some h1
        refine ⟨_, by rw [hlen, hE.1], h2, fun i u hu => ?_⟩
        have hi : i < P.cellsOf e := by rw [← hlen]; exact (List.getElem?_eq_some_iff.1 hu).1
        rw [hE.1, ← Deep.add_add, hcell i hi, hu]
      · rw [List.length_ofFn]
        have := wt _ List.mem_cons_self
        rw [List.length_map, List.length_map, List.length_range, List.length_range, hB] at this
        refine Nat.le_trans (Nat.mul_le_mul_right B (show len ≤ len + (m - len) by omega)) this
      · rw [List.length_ofFn]; exact hcap
      · intro x hx
        obtain ⟨i, rfl⟩ := List.mem_ofFn.1 hx
        exact (ex i).choose_spec.2.2⟩

theorem Opens.iso {α β : Type} {P : Program} {t : TypeId} {d : Kd α} {φ : α → Prop} (f : β → α) (g : α → β) (hg : ∀ y, f (g y) = y) (h : Opens P t d φ) : Opens P t (Kd.iso d f) (fun b => φ (f b)) :=
  ⟨h.1, fun H enc w fuel cs x hx hw => by
    obtain ⟨a, hK, hf⟩ := h.2 H enc w fuel cs x hx hw
    exact ⟨g a, by show d.K w (f (g a)) cs; rw [hg]; exact hK, by show φ (f (g a)); rw [hg]; exact hf⟩⟩

/-- Fields of a struct, from a cell on. -/
def OpensF {α : Type} (P : Program) (fs : List Field) (off : Nat) (d : Kd α) (φ : α → Prop) : Prop :=
  ∀ (H : Type) (enc : TypeId × Value → H) (w : World) (n : Nat) (cs : List Value) (xs : List (DataW H × List MemPlace)), xs.length = fs.length →
    (∀ (i : Nat) (f : Field), fs[i]? = some f → DataW.trod enc P w 0 (fun _ => true) true n f.type ((cs.drop f.offset).take (P.cellsOf f.type)) = xs[i]?) → cs.length = off + d.sz →
    (∀ m ∈ DataW.weightsEach P (fs.map (·.type)) (xs.map (·.1)), m ≤ reachBytes) → ∃ a, d.K w a (cs.drop off) ∧ φ a

theorem OpensF.one {α : Type} {P : Program} {f : Field} {off : Nat} {d : Kd α} {φ : α → Prop} (ho : f.offset = off) (h : Opens P f.type d φ) : OpensF P [f] off d φ := by
  intro H enc w n cs xs hl hf hlen hw
  match xs, hl with
  | [x0], _ =>
    have h0 := hf 0 f rfl
    rw [ho, List.take_of_length_le (by rw [List.length_drop, ← h.1]; omega)] at h0
    exact h.2 H enc w n (cs.drop off) x0 (by simpa using h0) (fun m hm => hw m (by simp [DataW.weightsEach]; exact hm))

theorem OpensF.cons {α β : Type} {P : Program} {f : Field} {fs : List Field} {off : Nat} {a : Kd α} {b : Kd β} {φ : α → Prop} {ψ : β → Prop} (ho : f.offset = off) (h : Opens P f.type a φ) (hr : OpensF P fs (off + a.sz) b ψ) :
    OpensF P (f :: fs) off (Kd.pair a b) (fun x => φ x.1 ∧ ψ x.2) := by
  intro H enc w n cs xs hl hf hlen hw
  match xs, hl with
  | x0 :: xs, hl =>
    have hsz : (Kd.pair a b).sz = a.sz + b.sz := rfl
    rw [hsz] at hlen
    have h0 := hf 0 f rfl
    rw [ho, ← h.1] at h0
    obtain ⟨p, hp, hpf⟩ := h.2 H enc w n ((cs.drop off).take a.sz) x0 (by simpa using h0) (fun m hm => hw m (by simp only [List.map_cons, DataW.weightsEach, List.mem_append]; exact .inl hm))
    obtain ⟨q, hq, hqf⟩ := hr H enc w n cs xs (by simpa using hl) (fun i g hg => by simpa using hf (i + 1) g (by simpa using hg)) (by omega) (fun m hm => hw m (by simp only [List.map_cons, DataW.weightsEach, List.mem_append]; exact .inr hm))
    refine ⟨(p, q), ⟨_, _, ?_, hp, hq⟩, hpf, hqf⟩
    rw [← List.drop_drop, List.take_append_drop]

theorem Opens.struct {α : Type} {P : Program} {t : TypeId} {fs : Array Field} {d : Kd α} {φ : α → Prop} (ht : P.underlying t = some (.struct fs)) (hs : d.sz = P.cellsOf t) (h : OpensF P fs.toList 0 d φ) : Opens P t d φ :=
  ⟨hs, fun H enc w fuel cs x hx hw => by
    obtain ⟨xs, n, _, rfl, hl, hlen, hf⟩ := DataW.trod_struct ht hx
    refine h H enc w n cs xs (by simpa using hlen) (fun i f hi => hf i f (by simpa using hi)) (by omega) (fun m hm => hw m ?_)
    simp only [DataW.weights, ht]
    exact hm⟩

/-- An array of two. -/
theorem Opens.array2 {α : Type} {P : Program} {t e : TypeId} {d : Kd α} {φ : α → Prop} (ht : P.underlying t = some (.array 2 e)) (hs : d.sz + d.sz = P.cellsOf t) (h : Opens P e d φ) : Opens P t (Kd.pair d d) (fun x => φ x.1 ∧ φ x.2) :=
  ⟨hs, fun H enc w fuel cs x hx hw => by
    obtain ⟨xs, n, _, rfl, hl, hlen, hf⟩ := DataW.trod_array ht hx
    match xs, hlen with
    | [x0, x1], _ =>
      have wt : ∀ m, m ∈ DataW.weightsAll P e [x0.1, x1.1] → m ≤ reachBytes := fun m hm => hw m (by simp only [DataW.weights, ht]; exact hm)
      have h0 := hf 0 (by omega)
      have h1 := hf 1 (by omega)
      rw [← h.1] at h0 h1
      obtain ⟨p, hp, hpf⟩ := h.2 H enc w n _ x0 (by simpa using h0) (fun m hm => wt m (weights_in_all (by simp) m hm))
      obtain ⟨q, hq, hqf⟩ := h.2 H enc w n _ x1 (by simpa using h1) (fun m hm => wt m (weights_in_all (by simp) m hm))
      have hq2 : d.K w q (cs.drop d.sz) := by
        rw [List.take_of_length_le (by rw [List.length_drop]; omega)] at hq
        simpa using hq
      refine ⟨(p, q), ⟨cs.take d.sz, cs.drop d.sz, (List.take_append_drop _ _).symm, by simpa using hp, hq2⟩, hpf, hqf⟩⟩

/-- An argument. -/
theorem Opens.arg {α H : Type} {enc : TypeId × Value → H} {P : Program} {W : World} {t : TypeId} {d : Kd α} {φ : α → Prop} {v : Value} {x : DataW H} {p : List MemPlace} {ts : List TypeId} {ds : List (DataW H)} {j : Nat} (h : Opens P t d φ)
    (hsz : (DataW.weightsEach P ts ds).all (· ≤ reachBytes) = true) (ht : ts[j]? = some t) (hd : ds[j]? = some x) (hv : DataW.Trod enc P W 0 (fun _ => true) true t v x p) : ∃ a, d.K W a v.cells.toList ∧ φ a := by
  obtain ⟨fuel, hf⟩ := hv
  exact h.2 H enc W fuel _ _ hf (fun n hn => by simpa using List.all_eq_true.1 hsz n (DataW.weights_mem_each ht hd n hn))
/-- An argument that is a slice. -/
theorem Opens.argSlice {α H : Type} {enc : TypeId × Value → H} {P : Program} {W : World} {t e : TypeId} {d : Kd α} {φ : List α → Prop} {v : Value} {x : DataW H} {p : List MemPlace} {ts : List TypeId} {ds : List (DataW H)} {j : Nat} {r : Reach} {b0 : Nat} (h : Opens P t (Kd.slice e d) φ)
    (hu : P.underlying t = some (.slice e)) (hok : Value.okWide P W r b0 t v)
    (hsz : (DataW.weightsEach P ts ds).all (· ≤ reachBytes) = true) (ht : ts[j]? = some t) (hd : ds[j]? = some x) (hv : DataW.Trod enc P W 0 (fun _ => true) true t v x p) :
    ∃ (A : Option Addr) (c : Nat) (l : List α), v = .slice A l.length c ∧ l.length ≤ c ∧ d.C W A l.length l ∧ φ l := by
  obtain ⟨A, n, c, rfl⟩ := okWide_slice hu hok
  obtain ⟨l, ⟨A', c', he, hl, hC⟩, hf⟩ := h.arg hsz ht hd hv
  have he' : [Value.slice A n c] = [Value.slice A' l.length c'] := he
  injection he' with he' _
  injection he' with e1 e2 e3
  subst e1 e2 e3
  exact ⟨_, _, l, rfl, hl, hC, hf⟩
/-- An argument that is a struct. -/
theorem Opens.argStruct {α H : Type} {enc : TypeId × Value → H} {P : Program} {W : World} {t : TypeId} {fs : Array Field} {d : Kd α} {φ : α → Prop} {v : Value} {x : DataW H} {p : List MemPlace} {ts : List TypeId} {ds : List (DataW H)} {j : Nat} {r : Reach} {b0 : Nat} (h : Opens P t d φ)
    (hu : P.underlying t = some (.struct fs)) (hok : Value.okWide P W r b0 t v)
    (hsz : (DataW.weightsEach P ts ds).all (· ≤ reachBytes) = true) (ht : ts[j]? = some t) (hd : ds[j]? = some x) (hv : DataW.Trod enc P W 0 (fun _ => true) true t v x p) :
    ∃ (a : α) (cs : List Value), v = .agg cs.toArray ∧ d.K W a cs ∧ φ a := by
  obtain ⟨cs, rfl, _⟩ := okWide_struct hu hok
  obtain ⟨a, hK, hf⟩ := h.arg hsz ht hd hv
  exact ⟨a, cs.toList, by simp, by simpa [Value.cells] using hK, hf⟩
theorem okWide_array {P : Program} {w : World} {r : Reach} {base : Nat} {t e : TypeId} {n : Nat} {v : Value} (ht : P.underlying t = some (.array n e)) (h : Value.okWide P w r base t v) : ∃ cs, v = .agg cs := by
  simp only [Value.okWide, ht] at h
  obtain ⟨cs, h1, _⟩ := h
  exact ⟨cs, h1⟩
theorem Opens.argArray {α H : Type} {enc : TypeId × Value → H} {P : Program} {W : World} {t e : TypeId} {n : Nat} {d : Kd α} {φ : α → Prop} {v : Value} {x : DataW H} {p : List MemPlace} {ts : List TypeId} {ds : List (DataW H)} {j : Nat} {r : Reach} {b0 : Nat} (h : Opens P t d φ)
    (hu : P.underlying t = some (.array n e)) (hok : Value.okWide P W r b0 t v)
    (hsz : (DataW.weightsEach P ts ds).all (· ≤ reachBytes) = true) (ht : ts[j]? = some t) (hd : ds[j]? = some x) (hv : DataW.Trod enc P W 0 (fun _ => true) true t v x p) :
    ∃ (a : α) (cs : List Value), v = .agg cs.toArray ∧ d.K W a cs ∧ φ a := by
  obtain ⟨cs, rfl⟩ := okWide_array hu hok
  obtain ⟨a, hK, hf⟩ := h.arg hsz ht hd hv
  exact ⟨a, cs.toList, by simp, by simpa [Value.cells] using hK, hf⟩
end Go.Proofs.Ytnhpfdnhnocgjaa.Open
