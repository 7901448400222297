import Derived.Test.YtkfofcgonkkdaaaTI
import Derived.Test.YtkfofcgonkkdaaaOpen
import Derived.WideShapes
namespace Go.Tat
open Go.RowKit Go.WideShapes Go.Proofs.YtkfofcgonkkdaaaW.PrintWords
theorem Opens.agg {P : Program} {t : TypeId} {fs : Array Field} {α : Type} {d : Kd α} {g : α → Prop} (ht : P.underlying t = some (.struct fs)) (ho : Opens P t d g) {r : Reach} {base : Nat}
    {H : Type} {enc : TypeId × Value → H} {w w' : World} {v : Value} {y : DataW H} {ps : List MemPlace} (hv : Value.okWide P w' r base t v) (h : DataW.Trod enc P w 0 (fun _ => true) true t v y ps) :
    ∃ x cs, v = .agg cs.toArray ∧ d.K w x cs ∧ g x := by
  obtain ⟨cs, rfl, _⟩ := okWide_struct ht hv
  obtain ⟨fuel, hf⟩ := h
  obtain ⟨x, hg, hK⟩ := ho.out hf
  exact ⟨x, cs.toList, by simp, by simpa [Value.cells] using hK, hg⟩
end Go.Tat
