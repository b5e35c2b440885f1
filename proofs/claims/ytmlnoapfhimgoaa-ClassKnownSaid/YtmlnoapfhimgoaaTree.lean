/- The tree of names, walked by hand: a map keyed by a name's two parts. -/
import Derived.Test.YtmlnoapfhimgoaaNamesLem
import Derived.Maps.Own
import Derived.Maps.Views
import Derived.Maps.OwnOps
import Derived.Maps.OwnSet
import Derived.DeepKeys4
import Derived.RegionTactic
import Derived.ChangeAlike
import Derived.StillTailTactics
import Derived.WalkArith
namespace Go.Proofs.Ytmlnoapfhimgoaa.Tree
set_option linter.unusedVariables false
set_option linter.unusedSimpArgs false
open Go.RowKit Go.Maps Go.Proofs.Ytmlnoapfhimgoaa.G Go.Proofs.Ytmlnoapfhimgoaa.Q Go.Proofs.Ytmlnoapfhimgoaa.Lem Go.Proofs.YtmlnoapfhimgoaaW.PrintWords Go.Proofs.YtmlnoapfhimgoaaW.PrintLast Go.Proofs.YtmlnoapfhimgoaaW.PrintMore
theorem laidOut : laidOutB Try.prog = true := by kernel_rfl
theorem row81 : 81 < Try.prog.types.size := of_decide_eq_true (by kernel_rfl)
theorem wide81 : (match Try.prog.underlying 81 with | some (.array _ _) | some (.struct _) => true | _ => false) = true := by kernel_rfl
theorem law81 : WideMaps.KeyLaw Try.prog 81 := deep_law_laid laidOut (m := 2) (by omega) row81 (by kernel_rfl) wide81
theorem keyed81 : Keyed Try.prog 81 := Keyed.of_law law81
def kl (d l : ByteArray) : Lit := .string (keyBytes [.string d.data.toList, .string l.data.toList])
def kv (d l : ByteArray) : Value := .agg #[.string d, .string l]
theorem keyOf_two {P : Program} {k e : TypeId} {f0 f1 : Field} (hu : P.underlying k = some (.struct #[f0, f1])) (t0 : f0.type = e) (t1 : f1.type = e) (o0 : f0.offset = 0) (o1 : f1.offset = 1) (n0 : (f0.name != "_") = true) (n1 : (f1.name != "_") = true)
    (he : P.underlying e = some .string) (hk : P.keyType k = true) (ck : P.cellsOf k = 2) (ce : P.cellsOf e = 1) {m : Nat} (hm : P.types.size = m + 1) (d l : ByteArray) (hd : d.size ≤ maxLen) (hl : l.size ≤ maxLen) : keyOf P k (kv d l) = some (kl d l) := by
  unfold keyOf kv
  have hf : (Value.agg #[.string d, .string l]).formed P k = true := by simp [Value.formed, hu, ck]
  simp [hu, hk, hf, hm, Program.keyLits, ck, ce, t0, t1, o0, o1, n0, n1, Value.cells, he, hd, hl, kl]
theorem types_pos : Try.prog.types.size = (Try.prog.types.size - 1) + 1 := by
  have : 0 < Try.prog.types.size := of_decide_eq_true (by kernel_rfl)
  omega
theorem keyOf_kl (d l : ByteArray) (hd : d.size ≤ maxLen) (hl : l.size ≤ maxLen) : keyOf Try.prog 81 (kv d l) = some (kl d l) :=
  keyOf_two Try.underlying81 rfl rfl rfl rfl (by decide) (by decide) Try.underlying9 (by kernel_rfl) (by kernel_rfl) (by kernel_rfl) types_pos d l hd hl
theorem kl_inj {d l d' l' : ByteArray} (hd : d.size ≤ maxLen) (hl : l.size ≤ maxLen) (hd' : d'.size ≤ maxLen) (hl' : l'.size ≤ maxLen) (h : kl d l = kl d' l') : d = d' ∧ l = l' := by
  have h1 := keyOf_kl d l hd hl
  have h2 := keyOf_kl d' l' hd' hl'
  rw [← h] at h2
  have := law81.inj h1 h2
  unfold kv at this
  injection this with this
  simpa using this
def elR : Value → Option (DataW Unit × List MemPlace)
  | .agg cs => match cs.toList with | [.int .i64 _, .bool x] => some (.lit (.bool x), []) | _ => none
  | _ => none
theorem elR_mk (n : Int) (x : Bool) : elR (.agg #[.int .i64 n, .bool x]) = some (.lit (.bool x), []) := rfl
theorem elR_inv {v : Value} {x : Bool} {ps : List MemPlace} (h : elR v = some (.lit (.bool x), ps)) : ∃ n, v = .agg #[.int .i64 n, .bool x] := by
  unfold elR at h
  split at h
  · split at h
    · rename_i n y hc
      simp only [Option.some.injEq, Prod.mk.injEq, DataW.lit.injEq, Lit.bool.injEq] at h
      obtain ⟨rfl, _⟩ := h
      exact ⟨n, by congr 1; apply Array.toList_inj.1; exact hc⟩
    · cases h
  · cases h
abbrev Ent := (ByteArray × ByteArray) × Bool
def findE (L : List Ent) (p : ByteArray × ByteArray) : Option Bool := (L.find? (fun e => decide (e.1 = p))).map (·.2)
theorem findE_snoc_same {L : List Ent} {p : ByteArray × ByteArray} {x : Bool} (h : findE L p = none) : findE (L ++ [(p, x)]) p = some x := by
  unfold findE at h ⊢
  rw [Option.map_eq_none_iff] at h
  rw [List.find?_append, h]
  simp
theorem findE_snoc_other {L : List Ent} {p q : ByteArray × ByteArray} {x : Bool} (h : q ≠ p) : findE (L ++ [(p, x)]) q = findE L q := by
  unfold findE
  rw [List.find?_append]
  have : (decide (p = q) = false) := decide_eq_false (Ne.symm h)
  simp [this]
def TreeS (w : World) (b : Nat) (L : List Ent) : Prop :=
  ∃ D : DataW Unit, w.ownsMap Try.prog 81 elR b L.length D ∧ Maps.size D = L.length ∧
    ∀ d l : ByteArray, d.size ≤ maxLen → l.size ≤ maxLen → Maps.has D (kl d l) = (findE L (d, l)).isSome ∧ D.atKey (kl d l) (.lit (.bool false)) = .lit (.bool ((findE L (d, l)).getD false))
theorem TreeS.made (w : World) : TreeS (w.alloc (.map #[] 0)) w.heap.size [] := ⟨.map [], World.ownsMap_made _ _ _ _, rfl, fun d l _ _ => ⟨rfl, rfl⟩⟩
theorem TreeS.lt {w : World} {b : Nat} {L : List Ent} (h : TreeS w b L) : b < w.heap.size := by
  obtain ⟨D, h, _⟩ := h
  exact h.lt
theorem TreeS.step {w w1 : World} {b : Nat} {L : List Ent} (h : TreeS w b L) (hb : w1.heap[b]? = w.heap[b]?) : TreeS w1 b L := by
  obtain ⟨D, ⟨es, clock, h1, h2⟩, r⟩ := h
  exact ⟨D, ⟨es, clock, hb.trans h1, h2⟩, r⟩
theorem TreeS.below {w w1 : World} {b : Nat} {L : List Ent} (h : TreeS w b L) (hb : Below w.heap.size w w1) : TreeS w1 b L := h.step (hb.block b h.lt)
theorem TreeS.look {w : World} {b : Nat} {L : List Ent} (h : TreeS w b L) (d l : ByteArray) (hd : d.size ≤ maxLen) (hl : l.size ≤ maxLen) :
    ∃ n : Int, (Instr.lookup 66 (.map (some b)) (kv d l) true).run Try.prog w = .ok (.tuple #[.agg #[.int .i64 n, .bool ((findE L (d, l)).getD false)], .bool (findE L (d, l)).isSome]) w := by
  obtain ⟨D, ho, _, hat⟩ := h
  obtain ⟨h1, h2⟩ := hat d l hd hl
  obtain ⟨v, ps, hrun, hv⟩ := ho.look_ok keyed81 Try.underlying66 (Try.zeroValue85 w) (zd := .lit (.bool false)) (elR_mk 0 false) (keyOf_kl d l hd hl)
  rw [h2] at hv
  rw [h1] at hrun
  obtain ⟨n, rfl⟩ := elR_inv hv
  exact ⟨n, hrun⟩
theorem TreeS.len {w : World} {b : Nat} {L : List Ent} (h : TreeS w b L) (ty : TypeId) : (Builtin.len_ #[66] ty #[.map (some b)]).run Try.prog w = .ok (.int .i64 L.length) w := by
  obtain ⟨D, ho, hs, _⟩ := h
  rw [← hs]
  exact ho.len Try.underlying66 ty
theorem TreeS.store {w : World} {b : Nat} {L : List Ent} (h : TreeS w b L) (d l : ByteArray) (hd : d.size ≤ maxLen) (hl : l.size ≤ maxLen) (hL : L.length < maxLen) (hn : findE L (d, l) = none) (n : Int) (x : Bool) :
    ∃ w', (Instr.mapUpdate 66 (.map (some b)) (kv d l) (.agg #[.int .i64 n, .bool x])).run Try.prog w = .ok () w' ∧ TreeS w' b (L ++ [((d, l), x)]) ∧ w.grownBy w' (some b) := by
  obtain ⟨D, ho, hs, hat⟩ := h
  obtain ⟨w', hrun, ho', hg⟩ := ho.update keyed81 Try.underlying66 hL (keyOf_kl d l hd hl) (elR_mk n x)
  refine ⟨w', hrun, ⟨_, by rw [List.length_append]; exact ho', ?_, fun d' l' hd' hl' => ?_⟩, hg⟩
  · rw [size_put (ho.tidy keyed81), (hat d l hd hl).1, hn, hs]
    simp
  · by_cases he : (d', l') = (d, l)
    · injection he with h1 h2
      subst h1 h2
      rw [has_put_same ho.isMap (show WideAt.IsKeyLit (kl d' l') from trivial), atKey_put_same ho.isMap (show WideAt.IsKeyLit (kl d' l') from trivial), findE_snoc_same hn]
      exact ⟨rfl, rfl⟩
    · have hk : kl d' l' ≠ kl d l := fun hk => he (by obtain ⟨rfl, rfl⟩ := kl_inj hd' hl' hd hl hk; rfl)
      rw [has_put_other hk, atKey_put_other hk, findE_snoc_other he]
      exact hat d' l' hd' hl'
end Go.Proofs.Ytmlnoapfhimgoaa.Tree
