/- append, told with the bundle: what comes is hidden. -/
import Derived.Test.YtkfofcgonkkdaaaAppN
namespace Go.Tat
open Go.RowKit Go.Proofs.YtkfofcgonkkdaaaW.PrintWords
section
variable {P : Program} {ops : Array Oper} {rest : List Oper} {o : Oper} {a : Act} {Q : Exit → Act → World → Prop} {α : Type} {d : Kd α} {enc : α → List Value} {Fp : Nat → Prop} {w0 W : World} {L : List Asr}
/-- append of a row. -/
theorem St.wpN (F : Flat d enc) (hgd : o.guard = none) (s x : Operand) (t e : TypeId) (z : Value) (bytes : Nat)
    (ho : o.op = .call { callee := .builtin .append, args := #[s, x], argTypes := #[t, t] })
    (ht : P.underlying t = some (.slice e)) (hinfo : (P.info? e).map (fun i => (i.zero, i.size, i.bytes)) = some (some z, d.sz, bytes)) (hz : z.cells.size = d.sz) (hs0 : 0 < d.sz) (hb0 : 0 < bytes)
    (H : St Fp w0 W L) (i : Nat) {v : Value} {xs : List α} (hi : L[i]? = some (slc d e v xs)) (ys : List α) (A : Option Addr) (c : Nat) (hs : a.eval s = v) (hx : a.eval x = .slice A ys.length c)
    (HR : d.C W A ys.length ys) (hl : (xs.length + ys.length) * bytes ≤ 140737488355328)
    (h : ∀ (T : List α) A c w1, Hid (T = xs ++ ys ∧ St Fp w0 w1 (L.set i (slc d e (.slice A T.length c) T))) → wpList P ops Q rest (a.put o.dst (.slice A T.length c)) w1) :
    wpList P ops Q (o :: rest) a W :=
  wpList_appN F hgd s x t e z bytes ho ht hinfo hz hs0 hb0 v xs ys A c _ hs hx (slc_R (H.get i hi)) HR hl fun T A c w1 hT R m ho => h T A c w1 (Lib.hid ⟨hT, H.app i hi F.E R m ho⟩)
/-- append of one element: the goal's world is that of the variadic's box. -/
theorem St.wp1 (F : Flat d enc) (hgd : o.guard = none) (s x : Operand) (t e : TypeId) (z : Value) (bytes : Nat)
    (ho : o.op = .call { callee := .builtin .append, args := #[s, x], argTypes := #[t, t] })
    (ht : P.underlying t = some (.slice e)) (hinfo : (P.info? e).map (fun i => (i.zero, i.size, i.bytes)) = some (some z, d.sz, bytes)) (hz : z.cells.size = d.sz) (hs0 : 0 < d.sz) (hb0 : 0 < bytes)
    (H : St Fp w0 W L) (i : Nat) {v : Value} {xs : List α} (hi : L[i]? = some (slc d e v xs)) (p : α) (cs : Array Value) (hcs : enc p = cs.toList) (hs : a.eval s = v) (hx : a.eval x = .slice (some ⟨W.heap.size, 0, none⟩) 1 1)
    (hl : (xs.length + 1) * bytes ≤ 140737488355328)
    (h : ∀ (T : List α) A c w1, Hid (T = xs ++ [p] ∧ St Fp w0 w1 (L.set i (slc d e (.slice A T.length c) T))) → wpList P ops Q rest (a.put o.dst (.slice A T.length c)) w1) :
    wpList P ops Q (o :: rest) a (W.alloc (.cells cs e)) := by
  have hp : d.M W 0 (fun _ => False) p cs.toList := F.M.2 hcs.symm
  have := wpList_app1 (P := P) (ops := ops) (rest := rest) (o := o) (a := a) (Q := Q) d hgd s x t e z bytes ho ht hinfo hz hs0 hb0 v xs p cs.toList _ hs hx hp (slc_R (H.get i hi)) hl fun A c w1 R m ho => h _ A c w1 (Lib.hid ⟨rfl, H.app i hi F.E R m ho⟩)
  simpa using this
end
section
variable {P : Program} {ops : Array Oper} {o : Oper} {a : Act} {Q : Exit → Act → World → Prop} {Kc : Act → World → Prop} {α : Type} {d : Kd α} {enc : α → List Value} {Fp : Nat → Prop} {w0 W : World} {L : List Asr}
/-- The same, at a step of a region that draws. -/
theorem St.stepN (F : Flat d enc) (hw : Region.wanted o (yielded ops a.tmps) = true) (s x : Operand) (t e : TypeId) (z : Value) (bytes : Nat)
    (ho : o.op = .call { callee := .builtin .append, args := #[s, x], argTypes := #[t, t] })
    (ht : P.underlying t = some (.slice e)) (hinfo : (P.info? e).map (fun i => (i.zero, i.size, i.bytes)) = some (some z, d.sz, bytes)) (hz : z.cells.size = d.sz) (hs0 : 0 < d.sz) (hb0 : 0 < bytes)
    (H : St Fp w0 W L) (i : Nat) {v : Value} {xs : List α} (hi : L[i]? = some (slc d e v xs)) (ys : List α) (A : Option Addr) (c : Nat) (hs : a.eval s = v) (hx : a.eval x = .slice A ys.length c)
    (HR : d.C W A ys.length ys) (hl : (xs.length + ys.length) * bytes ≤ 140737488355328)
    (h : ∀ (T : List α) A c w1, Hid (T = xs ++ ys ∧ St Fp w0 w1 (L.set i (slc d e (.slice A T.length c) T))) → Kc (a.put o.dst (.slice A T.length c)) w1) :
    if Region.wanted o (yielded ops a.tmps) = true then Oper.wp P o a W Kc Q else Kc (a.put o.dst undef) W :=
  step_appN F hw s x t e z bytes ho ht hinfo hz hs0 hb0 v xs ys A c _ hs hx (slc_R (H.get i hi)) HR hl fun T A c w1 hT R m ho => h T A c w1 (Lib.hid ⟨hT, H.app i hi F.E R m ho⟩)
end
end Go.Tat
