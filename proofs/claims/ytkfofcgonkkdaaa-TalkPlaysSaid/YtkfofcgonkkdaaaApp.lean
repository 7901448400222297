/- append of one element. -/
import Derived.Test.YtkfofcgonkkdaaaFlat
import Derived.Deep.DeepCutAuto
import Derived.Deep.CutBlock
import Derived.Deep.RegionLaw
import Derived.Deep.RegionHeld3
import Derived.Deep.QuietTactic
import Derived.BigQuiet
import Derived.BigRegion
import Derived.OwnWalk
import Derived.OpenShut
import Derived.Lib.Hide
import Derived.StillTailTactics
namespace Go.Tat
open Go.RowKit Go.Proofs.YtkfofcgonkkdaaaW.PrintWords
/-- append of one element. -/
theorem wpList_app1 {P : Program} {ops : Array Oper} {rest : List Oper} {o : Oper} {a : Act} {Q : Exit → Act → World → Prop} {α : Type} (d : Kd α) {W : World} (hgd : o.guard = none) (s x : Operand) (t e : TypeId) (z : Value) (bytes : Nat)
    (ho : o.op = .call { callee := .builtin .append, args := #[s, x], argTypes := #[t, t] })
    (ht : P.underlying t = some (.slice e)) (hinfo : (P.info? e).map (fun i => (i.zero, i.size, i.bytes)) = some (some z, d.sz, bytes)) (hz : z.cells.size = d.sz) (hs0 : 0 < d.sz) (hb0 : 0 < bytes)
    (v : Value) (xs : List α) (p : α) (cs : List Value) (ok : Nat → Prop) (hs : a.eval s = v) (hx : a.eval x = .slice (some ⟨W.heap.size, 0, none⟩) 1 1) (hp : d.M W 0 (fun _ => False) p cs)
    (HO : d.R e W 0 ok v xs) (hl : (xs.length + 1) * bytes ≤ 140737488355328)
    (h : ∀ A c w1, d.R e w1 0 (fun k => ok k ∨ W.heap.size ≤ k) (.slice A (xs ++ [p]).length c) (xs ++ [p]) → Mod (fun k => v.ownBlock = some k) W w1 → (∀ k, (Value.slice A (xs ++ [p]).length c).ownBlock = some k → v.ownBlock = some k ∨ W.heap.size ≤ k) → wpList P ops Q rest (a.put o.dst (.slice A (xs ++ [p]).length c)) w1) :
    wpList P ops Q (o :: rest) a (W.alloc (.cells cs.toArray e)) := by
  refine Kd.R_append d 0 hgd s x t e z bytes ho ht hinfo hz hs0 hb0 v xs p cs (fun k => ok k ∨ W.heap.size ≤ k) (fun _ => False) hs hx hp (fun k hk => hk.elim) (fun k hk => .inr hk) (Kd.R_mono HO fun k hk => .inl hk) ⟨rfl, rfl, rfl, Nat.le_refl _, fun k hk => absurd hk (Nat.not_lt_zero _)⟩ (Nat.zero_le _) hl ?_
  · intro v1 w1 hR _ hg hat
    obtain ⟨A, c, rfl⟩ := Kd.R_slice hR
    refine h A c w1 hR (Mod.of_grown hg fun k _ hk => hk) fun k hk => ?_
    rcases hat with e | ⟨b, e, hb⟩
    · exact .inl (e ▸ hk)
    · rw [e] at hk; cases hk; exact .inr hb
/-- append of one element, in a region that draws. -/
theorem step_app1 {P : Program} {ops : Array Oper} {o : Oper} {a : Act} {Q : Exit → Act → World → Prop} {Kc : Act → World → Prop} {α : Type} (d : Kd α) {W : World} (hw : Region.wanted o (yielded ops a.tmps) = true) (s x : Operand) (t e : TypeId) (z : Value) (bytes : Nat)
    (ho : o.op = .call { callee := .builtin .append, args := #[s, x], argTypes := #[t, t] })
    (ht : P.underlying t = some (.slice e)) (hinfo : (P.info? e).map (fun i => (i.zero, i.size, i.bytes)) = some (some z, d.sz, bytes)) (hz : z.cells.size = d.sz) (hs0 : 0 < d.sz) (hb0 : 0 < bytes)
    (v : Value) (xs : List α) (p : α) (cs : List Value) (ok : Nat → Prop) (hs : a.eval s = v) (hx : a.eval x = .slice (some ⟨W.heap.size, 0, none⟩) 1 1) (hp : d.M W 0 (fun _ => False) p cs)
    (HO : d.R e W 0 ok v xs) (hl : (xs.length + 1) * bytes ≤ 140737488355328)
    (h : ∀ A c w1, d.R e w1 0 (fun k => ok k ∨ W.heap.size ≤ k) (.slice A (xs ++ [p]).length c) (xs ++ [p]) → Mod (fun k => v.ownBlock = some k) W w1 → (∀ k, (Value.slice A (xs ++ [p]).length c).ownBlock = some k → v.ownBlock = some k ∨ W.heap.size ≤ k) → Kc (a.put o.dst (.slice A (xs ++ [p]).length c)) w1) :
    if Region.wanted o (yielded ops a.tmps) = true then Oper.wp P o a (W.alloc (.cells cs.toArray e)).drew Kc Q else Kc (a.put o.dst undef) (W.alloc (.cells cs.toArray e)).drew := by
  have := Kd.R_append_step (P := P) (Q := Q) (Kc := Kc) (w0 := W.drew) (W := W.drew) d 0 hw s x t e z bytes ho ht hinfo hz hs0 hb0 v xs p cs (fun k => ok k ∨ W.heap.size ≤ k) (fun _ => False) hs hx (d.M_move (fun k hk => hk.elim) hp) (fun k hk => hk.elim) (fun k hk => .inr hk) (Kd.R_drew (Kd.R_mono HO fun k hk => .inl hk)) ⟨rfl, rfl, rfl, Nat.le_refl _, fun k hk => absurd hk (Nat.not_lt_zero _)⟩ (Nat.zero_le _) hl ?_
  · exact this
  · intro v1 w1 hR _ hg hat
    obtain ⟨A, c, rfl⟩ := Kd.R_slice hR
    refine h A c w1 hR ((Mod.drew _ W).trans (Mod.of_grown hg fun k _ hk => hk)) fun k hk => ?_
    rcases hat with e | ⟨b, e, hb⟩
    · exact .inl (e ▸ hk)
    · rw [e] at hk; cases hk; exact .inr hb
end Go.Tat
