/- A slice literal of one struct, whose cells are not looked into. -/
import Derived.Test.YtmpodcefngpnkaaLib
import Derived.Great.BuildSlice
import Derived.Great.FillDense
set_option linter.unusedVariables false
set_option linter.unusedSimpArgs false
namespace Go.Tat
open Go.RowKit Go.Proofs.YtmpodcefngpnkaaW.PrintWords
section
variable {P : Program} {ops : Array Oper} {rest : List Oper} {o : Oper} {a : Act} {Q : Exit → Act → World → Prop} {α : Type} {d : Kd α} {enc : α → List Value} {w : World}
theorem wpList_build1 (F : Flat d enc) (hg : o.guard = none) (t e : TypeId) (y : Operand) (hop : o.op = .buildSlice t 1 #[(0, y)]) (hu : P.underlying t = some (.slice e)) (z : Value) (bytes : Nat)
    (hinfo : (P.info? e).map (fun i => (i.zero, i.size, i.bytes)) = some (some z, d.sz, bytes)) (hz : z.cells.size = d.sz) (hs0 : 0 < d.sz) (hsm : d.sz ≤ 1000000) (V : Array Value) (hV : V.size = d.sz) (hy : a.eval y = .agg V)
    (h : wpList P ops Q rest (a.put o.dst (.slice (some ⟨w.heap.size, 0, none⟩) 1 1)) (w.alloc (.cells V e))) : wpList P ops Q (o :: rest) a w := by
  cases hie : P.info? e with
  | none => rw [hie] at hinfo; cases hinfo
  | some ie =>
    rw [hie] at hinfo
    injection hinfo with hinfo
    injection hinfo with h1 h2
    injection h2 with h2 h3
    refine wpList_buildSlice hg t e 1 #[(0, y)] hop V ie z hu hie h1 (by rw [h2]; omega) (by rw [h2]; omega) ?_ h
    obtain ⟨r, hr, hsz, hk⟩ := Great.fill_dense (s := ie.size) (by omega) [Value.agg V] 0 ((Array.range (1 * ie.size)).map (z.cells[· % z.cells.size]!)) (fun v hv => by rw [List.mem_singleton.1 hv]; show V.size = _; rw [hV, h2]) (by simp)
    have e1 : (#[((0 : Nat), y)].map fun (i, x) => (i, a.eval x)).toList = (([Value.agg V].zipIdx 0).map fun x => (x.2, x.1)) := by simp [hy]
    rw [e1, hr]
    congr 1
    apply Array.ext_getElem?
    intro k
    rw [hk k]
    have e2 : ie.size = V.size := by rw [hV, h2]
    by_cases hlt : k < V.size
    · rw [if_pos (by simp; omega)]
      simp [e2, Nat.div_eq_of_lt hlt, Nat.mod_eq_of_lt hlt, Value.cells]
    · rw [if_neg (by simp; omega), Array.getElem?_eq_none (by simp; omega), Array.getElem?_eq_none (by omega)]
end
end Go.Tat
