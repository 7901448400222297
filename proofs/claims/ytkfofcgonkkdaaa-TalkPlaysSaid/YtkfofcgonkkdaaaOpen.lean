/- What an argument that can be read holds, kind by kind. -/
import Derived.Test.YtkfofcgonkkdaaaWWords
import Derived.Deep.Slices
import Derived.ProofKit
namespace Go.Tat
open Go.RowKit Go.Deep Go.WideShapes Go.ChangeShapes Go.Proofs.YtkfofcgonkkdaaaW.PrintWords
/-- Whatever reads as a type's value is one of this kind. -/
structure Opens {α : Type} (P : Program) (t : TypeId) (d : Kd α) (g : α → Prop) : Prop where
  out : ∀ {H : Type} {enc : TypeId × Value → H} {w : World} {fuel : Nat} {cs : List Value} {x : DataW H × List MemPlace}, DataW.trod enc P w 0 (fun _ => true) true fuel t cs = some x → ∃ p, g p ∧ d.K w p cs
theorem Opens.int {P : Program} {t : TypeId} {k : IntKind} (ht : P.underlying t = some (.int k)) : Opens P t (Kd.int k) (fun n => (Lit.int k n).wf = true) := .mk fun h => by
  obtain ⟨n, rfl, _, hw⟩ := DataW.trod_int ht h
  exact ⟨n, hw, rfl⟩
theorem Opens.bool {P : Program} {t : TypeId} (ht : P.underlying t = some .bool) : Opens P t Kd.bool (fun _ => True) := .mk fun h => by
  obtain ⟨n, rfl, _⟩ := DataW.trod_bool ht h
  exact ⟨n, trivial, rfl⟩
theorem Opens.string {P : Program} {t : TypeId} (ht : P.underlying t = some .string) : Opens P t Kd.string (fun s => s.size ≤ maxLen) := .mk fun h => by
  obtain ⟨n, rfl, _, hw⟩ := DataW.trod_string ht h
  exact ⟨n, hw, rfl⟩
theorem Opens.slice {P : Program} {t e : TypeId} {α : Type} {d : Kd α} {g : α → Prop} [Inhabited α] (ht : P.underlying t = some (.slice e)) (hs : P.cellsOf e = d.sz) (ho : Opens P e d g) :
    Opens P t (Kd.slice e d) (fun xs => ∀ x ∈ xs, g x) := .mk fun {H enc w fuel cs x} h => by
  rcases open_slice ht h with ⟨rfl, _⟩ | ⟨a, len, cap, m, n, D, Pl, rfl, _, hl, hm, hmm, _, hx⟩
  · exact ⟨[], by simp, none, 0, rfl, Nat.le_refl _, Kd.C_nil d w⟩
  · simp only [if_true] at hmm
    obtain ⟨f, hf⟩ := choose_lt (n := len) (p := fun i p => g p ∧ ∃ cs', w.cells? 0 (a.add (i * P.cellsOf e)) (P.cellsOf e) = some cs' ∧ d.K w p cs') (fun i hi => by
      obtain ⟨cs', h1, h2⟩ := hx i (by omega)
      obtain ⟨p, hg, hk⟩ := ho.out h2
      exact ⟨p, hg, cs', h1, hk⟩)
    refine ⟨(List.range len).map f, ?_, some a, cap, by simp, by simpa using hl, ?_⟩
    · intro y hy
      obtain ⟨i, hi, rfl⟩ := List.mem_map.1 hy
      exact (hf i (List.mem_range.1 hi)).1
    · refine ⟨rfl, by simp; unfold maxLen at hm; omega, fun _ => ⟨a, rfl, fun j p hp => ?_⟩⟩
      have hj : j < len := by
        have := (List.getElem?_eq_some_iff.1 hp).1
        simpa using this
      obtain ⟨_, cs', h1, hk⟩ := hf j hj
      have hpe : f j = p := by simpa [hj] using hp
      obtain ⟨_, hlen, hc⟩ := World.cells?_some h1
      refine ⟨cs', by rw [hlen, hs], hpe ▸ hk, fun i u hu => ?_⟩
      have hi : i < P.cellsOf e := by
        have := (List.getElem?_eq_some_iff.1 hu).1
        omega
      have := hc i hi
      rw [Deep.add_add, hs] at this
      rw [this, hu]
/-- The fields from a place on. -/
structure OpensF {α : Type} (P : Program) (fs : List Field) (off : Nat) (d : Kd α) (g : α → Prop) : Prop where
  out : ∀ {H : Type} {enc : TypeId × Value → H} {w : World} {n : Nat} {cs : List Value}, off + d.sz ≤ cs.length →
    (∀ (j : Nat) (f : Field), fs[j]? = some f → ∃ y : DataW H × List MemPlace, DataW.trod enc P w 0 (fun _ => true) true n f.type ((cs.drop f.offset).take (P.cellsOf f.type)) = some y) → ∃ p, g p ∧ d.K w p ((cs.drop off).take d.sz)
theorem OpensF.one {P : Program} {f : Field} {off : Nat} {α : Type} {d : Kd α} {g : α → Prop} (hf : f.offset = off) (hs : P.cellsOf f.type = d.sz) (ho : Opens P f.type d g) : OpensF P [f] off d g := .mk fun _ h => by
  obtain ⟨y, hy⟩ := h 0 f rfl
  obtain ⟨p, hg, hk⟩ := ho.out hy
  rw [hf, hs] at hk
  exact ⟨p, hg, hk⟩
theorem OpensF.cons {P : Program} {f : Field} {fs : List Field} {off : Nat} {α β : Type} {d : Kd α} {d' : Kd β} {g : α → Prop} {g' : β → Prop} (hf : f.offset = off) (hs : P.cellsOf f.type = d.sz) (ho : Opens P f.type d g)
    (hr : OpensF P fs (off + d.sz) d' g') : OpensF P (f :: fs) off (Kd.pair d d') (fun p => g p.1 ∧ g' p.2) := .mk fun {H enc w n cs} hl h => by
  obtain ⟨y, hy⟩ := h 0 f rfl
  obtain ⟨p, hg, hk⟩ := ho.out hy
  rw [hf, hs] at hk
  have hl' : off + (d.sz + d'.sz) ≤ cs.length := hl
  obtain ⟨q, hg', hk'⟩ := hr.out (by omega) (fun j f' hj => h (j + 1) f' hj)
  refine ⟨(p, q), ⟨hg, hg'⟩, _, _, ?_, hk, hk'⟩
  show (cs.drop off).take (d.sz + d'.sz) = _
  rw [List.take_add, List.drop_drop]
theorem Opens.struct {P : Program} {t : TypeId} {fs : Array Field} {α β : Type} {d : Kd α} {g : α → Prop} (ht : P.underlying t = some (.struct fs)) (hs : P.cellsOf t = d.sz) (ho : OpensF P fs.toList 0 d g) (f : β → α) (f' : α → β) (hff : ∀ p, f (f' p) = p) :
    Opens P t (Kd.iso d f) (fun x => g (f x)) := .mk fun h => by
  obtain ⟨xs, n, _, rfl, hl, hlen, hf⟩ := DataW.trod_struct ht h
  rename_i H enc w fuel cs x
  have h0 : 0 + d.sz ≤ cs.length := by omega
  obtain ⟨p, hg, hk⟩ := ho.out (w := w) (enc := enc) (n := n) (cs := cs) h0 (fun j f hj => by
    have hjl : j < xs.length := by
      have := (List.getElem?_eq_some_iff.1 hj).1
      rw [hlen]; simpa using this
    exact ⟨xs[j], (hf j f (by simpa using hj)).trans (by simp [hjl])⟩)
  refine ⟨f' p, by show g (f (f' p)); rw [hff]; exact hg, ?_⟩
  show d.K w (f (f' p)) cs
  rw [hff]
  rwa [List.drop_zero, List.take_of_length_le (by omega)] at hk
/-- An argument that is a slice. -/
theorem Opens.arg {P : Program} {t e : TypeId} {α : Type} {d : Kd α} {g : α → Prop} [Inhabited α] (ht : P.underlying t = some (.slice e)) (hs : P.cellsOf e = d.sz) (ho : Opens P e d g)
    {H : Type} {enc : TypeId × Value → H} {w : World} {A : Option Addr} {len cap : Nat} {y : DataW H} {ps : List MemPlace} (h : DataW.Trod enc P w 0 (fun _ => true) true t (.slice A len cap) y ps) :
    ∃ xs, len = xs.length ∧ xs.length ≤ cap ∧ d.C w A xs.length xs ∧ ∀ x ∈ xs, g x := by
  obtain ⟨fuel, hf⟩ := h
  obtain ⟨xs, hg, A', c, hv, hl, hC⟩ := (Opens.slice ht hs ho).out hf
  simp only [Value.cells, List.cons.injEq, Value.slice.injEq, and_true] at hv
  obtain ⟨rfl, rfl, rfl⟩ := hv
  exact ⟨xs, rfl, hl, hC, hg⟩
end Go.Tat
