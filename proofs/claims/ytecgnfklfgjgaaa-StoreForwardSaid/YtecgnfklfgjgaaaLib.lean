/- Several texts put together. -/
import Derived.WalkKit
import Derived.WalkSpells
import Derived.Deep.Draws
import Derived.MapKept
import Derived.Test.YtecgnfklfgjgaaaWWords
import Derived.Maps.RangeRun
import Derived.Laws.Rows
import Derived.Shelf.SlSortCmp.NoneTotal
import Derived.Deep.DeepCutAuto
import Derived.Deep.CutBlock
import Derived.Deep.RegionLaw
import Derived.Deep.RegionHeld3
import Derived.Deep.QuietTactic
import Derived.BigQuiet
import Derived.BigRegion
import Derived.OwnWalk
import Derived.OpenShut
import Derived.Lib.Hide
import Derived.StillTailTactics
import Derived.Deep.Slices
import Derived.ProofKit
import Derived.WideShapes
import Derived.Laws.CopyRow
import Derived.StillTail
import Derived.Deep.Quiet
set_option linter.unusedVariables false
set_option linter.unusedSimpArgs false
/- Small words on worlds: which blocks a call may have changed, and what a block holds. -/
namespace Go.Tat
open Go.RowKit
/-- Of the blocks that were there only those of S may have changed. -/
structure Mod (S : Nat → Prop) (w w' : World) : Prop where
  os : w'.os = w.os
  tape : w'.tape = w.tape
  output : w'.output = w.output
  size : w.heap.size ≤ w'.heap.size
  block : ∀ k, k < w.heap.size → ¬ S k → w'.heap[k]? = w.heap[k]?
theorem Mod.refl (S : Nat → Prop) (w : World) : Mod S w w := ⟨rfl, rfl, rfl, Nat.le_refl _, fun _ _ _ => rfl⟩
theorem Mod.mono {S S' : Nat → Prop} {w w' : World} (h : Mod S w w') (hS : ∀ k, k < w.heap.size → S k → S' k) : Mod S' w w' :=
  ⟨h.os, h.tape, h.output, h.size, fun k hk hn => h.block k hk (fun hs => hn (hS k hk hs))⟩
theorem Mod.trans {S : Nat → Prop} {a b c : World} (h : Mod S a b) (k : Mod S b c) : Mod S a c :=
  ⟨k.os.trans h.os, k.tape.trans h.tape, k.output.trans h.output, Nat.le_trans h.size k.size, fun i hi hn => (k.block i (Nat.lt_of_lt_of_le hi h.size) hn).trans (h.block i hi hn)⟩
/-- The later step may also change what is new. -/
theorem Mod.trans' {S S' : Nat → Prop} {a b c : World} (h : Mod S a b) (k : Mod S' b c) (hS : ∀ i, i < a.heap.size → S' i → S i) : Mod S a c :=
  ⟨k.os.trans h.os, k.tape.trans h.tape, k.output.trans h.output, Nat.le_trans h.size k.size, fun i hi hn => (k.block i (Nat.lt_of_lt_of_le hi h.size) (fun hs => hn (hS i hi hs))).trans (h.block i hi hn)⟩
theorem Mod.alloc (S : Nat → Prop) (w : World) (o : Obj) : Mod S w (w.alloc o) :=
  ⟨rfl, rfl, rfl, by simp, fun k hk _ => Below.heap_alloc _ _ _ hk⟩
theorem Mod.drew (S : Nat → Prop) (w : World) : Mod S w w.drew := ⟨rfl, rfl, rfl, Nat.le_refl _, fun _ _ _ => rfl⟩
theorem Mod.drewN (S : Nat → Prop) (w : World) (n : Nat) : Mod S w (w.drewN n) := ⟨rfl, rfl, rfl, Nat.le_refl _, fun _ _ _ => rfl⟩
theorem Mod.setCell {S : Nat → Prop} {w : World} {p : Addr} (hp : S p.block) (u : Value) : Mod S w (w.setCell p u) :=
  ⟨rfl, rfl, rfl, by simp, fun k _ hn => Below.heap_setCell _ _ _ _ (fun e => hn (e ▸ hp))⟩
theorem Mod.set {S : Nat → Prop} {a w : World} (m : Mod S a w) {p : Addr} (hp : S p.block) (u : Value) : Mod S a (w.setCell p u) := m.trans (Mod.setCell hp u)
theorem Mod.dr {S : Nat → Prop} {a w : World} (m : Mod S a w) : Mod S a w.drew := m.trans (Mod.drew S w)
theorem Mod.drN {S : Nat → Prop} {a w : World} (m : Mod S a w) (n : Nat) : Mod S a (w.drewN n) := m.trans (Mod.drewN S w n)
theorem Mod.al {S : Nat → Prop} {a w : World} (m : Mod S a w) (o : Obj) : Mod S a (w.alloc o) := m.trans (Mod.alloc S w o)
/-- A store into a block that is new. -/
theorem Mod.setNew {S : Nat → Prop} {a w : World} (m : Mod S a w) {p : Addr} (hp : a.heap.size ≤ p.block) (u : Value) : Mod S a (w.setCell p u) :=
  m.trans' (Mod.setCell (S := fun k => k = p.block) rfl u) (fun i hi h => by omega)
theorem Mod.of_below {w w' : World} {S : Nat → Prop} (h : Below w.heap.size w w') : Mod S w w' := ⟨h.os, h.tape, h.output, h.size, fun k hk _ => h.block k hk⟩
theorem Mod.below {w w' : World} {S : Nat → Prop} (h : Mod S w w') {B : Nat} (hB : B ≤ w.heap.size) (hS : ∀ k, k < B → ¬ S k) : Below B w w' :=
  ⟨h.os, h.tape, h.output, h.size, fun k hk => h.block k (by omega) (hS k hk)⟩
theorem Mod.of_grown {w w' : World} {S : Nat → Prop} {row : Option Nat} (h : w.grownBy w' row) (hS : ∀ k, k < w.heap.size → row = some k → S k) : Mod S w w' :=
  ⟨h.os, h.tape, h.output, h.size, fun k hk hn => h.block k hk (fun e => hn (hS k hk e.symm))⟩
/-- What a block of cells holds, as a function; it is not frozen. -/
structure Blk (w : World) (b : Nat) (f : Nat → Option Value) : Prop where
  cell : ∀ j, w.cell? ⟨b, j, none⟩ = f j
  fz : ∀ j, w.frozen? ⟨b, j, none⟩ = false
  lt : b < w.heap.size
def upd (f : Nat → Option Value) (k : Nat) (v : Value) : Nat → Option Value := fun j => if j = k then some v else f j
@[simp] theorem upd_same (f : Nat → Option Value) (k : Nat) (v : Value) : upd f k v k = some v := by simp [upd]
theorem upd_ne (f : Nat → Option Value) (k : Nat) (v : Value) {j : Nat} (h : j ≠ k) : upd f k v j = f j := by simp [upd, h]
theorem Blk.mod {w w' : World} {b : Nat} {f : Nat → Option Value} {S : Nat → Prop} (h : Blk w b f) (m : Mod S w w') (hn : ¬ S b) : Blk w' b f :=
  have hb := m.block b h.lt hn
  ⟨fun j => (World.cell?_of_block (a := ⟨b, j, none⟩) hb).trans (h.cell j), fun j => (World.frozen?_of_block (a := ⟨b, j, none⟩) hb).trans (h.fz j), Nat.lt_of_lt_of_le h.lt m.size⟩
theorem Blk.alloc {w : World} {b : Nat} {f : Nat → Option Value} (h : Blk w b f) (o : Obj) : Blk (w.alloc o) b f := h.mod (Mod.alloc (fun _ => False) w o) id
theorem Blk.drew {w : World} {b : Nat} {f : Nat → Option Value} (h : Blk w b f) : Blk w.drew b f := ⟨h.cell, h.fz, h.lt⟩
theorem Blk.drewN {w : World} {b : Nat} {f : Nat → Option Value} (h : Blk w b f) (n : Nat) : Blk (w.drewN n) b f := ⟨h.cell, h.fz, h.lt⟩
theorem Blk.set {w : World} {b : Nat} {f : Nat → Option Value} (h : Blk w b f) {k : Nat} {u : Value} (hk : f k = some u) (v : Value) : Blk (w.setCell ⟨b, k, none⟩ v) b (upd f k v) := by
  refine ⟨fun j => ?_, fun j => ?_, by simpa using h.lt⟩
  · by_cases e : j = k
    · subst e; rw [upd_same]; exact World.cell?_setCell_same _ _ _ ((h.cell j).trans hk)
    · rw [upd_ne _ _ _ e, World.cell?_setCell_other w ⟨b, k, none⟩ ⟨b, j, none⟩ v (fun h => e (by injection h with h1 h2; exact h2.symm))]; exact h.cell j
  · rw [World.frozen?_setCell]; exact h.fz j
theorem Blk.setOther {w : World} {b : Nat} {f : Nat → Option Value} (h : Blk w b f) {p : Addr} (hp : p.block ≠ b) (v : Value) : Blk (w.setCell p v) b f :=
  h.mod (Mod.setCell (S := fun k => k = p.block) rfl v) (Ne.symm hp)
theorem Blk.new (w : World) (cs : Array Value) (t : TypeId) : Blk (w.alloc (.cells cs t)) w.heap.size (fun j => cs[j]?) :=
  ⟨fun j => World.cell?_alloc_new _ _ _ _, fun j => World.frozen?_alloc_new _ _ _ _, by simp⟩
theorem Blk.of_heap {w : World} {b : Nat} {cs : Array Value} {t : TypeId} (h : w.heap[b]? = some (.cells cs t (0, 0))) : Blk w b (fun j => cs[j]?) := by
  refine ⟨fun j => ?_, fun j => ?_, ?_⟩
  · simp [World.cell?, h]
  · simp [World.frozen?, h]
  · rcases Nat.lt_or_ge b w.heap.size with h' | h'
    · exact h'
    · simp [Array.getElem?_eq_none h'] at h
/-! ### What a row of structs holds -/
/-- Some cells of a block set anew. -/
def updL (f : Nat → Option Value) (k : Nat) (vs : List Value) : Nat → Option Value := fun j => if k ≤ j ∧ j < k + vs.length then vs[j - k]? else f j
theorem updL_nil (f : Nat → Option Value) (k : Nat) : updL f k [] = f := by
  funext j; unfold updL; rw [if_neg (by simp only [List.length_nil]; omega)]
theorem updL_cons (f : Nat → Option Value) (k : Nat) (v : Value) (vs : List Value) : updL f k (v :: vs) = updL (upd f k v) (k + 1) vs := by
  funext j; unfold updL upd
  by_cases h : j = k
  · subst h; rw [if_pos (by simp), if_neg (by omega), if_pos rfl]; simp
  · by_cases h2 : k + 1 ≤ j ∧ j < k + 1 + vs.length
    · rw [if_pos h2, if_pos (by simp only [List.length_cons]; omega), show j - k = (j - (k + 1)) + 1 by omega]; simp
    · rw [if_neg h2, if_neg (by simp only [List.length_cons]; omega), if_neg h]
theorem run_storeCells_blk {P : Program} (b k : Nat) : ∀ (vs : List Value) (i : Nat) (f : Nat → Option Value) (w : World), Blk w b f → (∀ j, j < vs.length → (f (k + i + j)).isSome = true) → (∀ v ∈ vs, v.oneCell' = true) →
    ∃ w', (storeCells ⟨b, k, none⟩ vs i).run P w = .ok () w' ∧ Blk w' b (updL f (k + i) vs) ∧ Mod (· = b) w w' ∧ w'.heap.size = w.heap.size
  | [], i, f, w, hb, _, _ => ⟨w, by simp [storeCells], by rw [updL_nil]; exact hb, Mod.refl _ _, rfl⟩
  | v :: vs, i, f, w, hb, hs, h1 => by
    obtain ⟨u, hu⟩ := Option.isSome_iff_exists.1 (by simpa using hs 0 (by simp))
    have hadd : (⟨b, k, none⟩ : Addr).add i = ⟨b, k + i, none⟩ := by unfold Addr.add; split <;> simp_all
    have hst : (store ((⟨b, k, none⟩ : Addr).add i) v).run P w = .ok () (w.setCell ⟨b, k + i, none⟩ v) := by
      rw [hadd, run_store P w _ v _ (h1 v (by simp)), hb.cell, hu]; simp [hb.fz]
    obtain ⟨w', hr, hB, hM, hz⟩ := run_storeCells_blk (P := P) b k vs (i + 1) (upd f (k + i) v) (w.setCell ⟨b, k + i, none⟩ v) (hb.set hu v)
      (fun j hj => by
        unfold upd; rw [if_neg (by omega)]; have := hs (j + 1) (by simp; omega); rwa [show k + i + (j + 1) = k + (i + 1) + j by omega] at this)
      (fun x hx => h1 x (by simp [hx]))
    refine ⟨w', ?_, ?_, (Mod.setCell (S := (· = b)) rfl v).trans hM, by rw [hz]; simp⟩
    · simp only [storeCells, Sem.run_bind, hst, Result.andThen_ok, hr]
    · rw [updL_cons]; exact hB
theorem wpList_store_blk {P : Program} {w : World} {ops : Array Oper} {rest : List Oper} {o : Oper} {a : Act} {Q : Exit → Act → World → Prop} (hg : o.guard = none) (t : TypeId) (x y : Operand) (hop : o.op = .store t x y)
    (b k : Nat) (f : Nat → Option Value) (v : Value) (vs : List Value) (hx : a.eval x = .pointer (some ⟨b, k, none⟩)) (hy : a.eval y = v) (hv : v.cells.toList = vs) (hsz : (P.info? t).map (·.size) = some vs.length) (hb : Blk w b f)
    (hs : ∀ j, j < vs.length → (f (k + j)).isSome = true) (h1 : ∀ v ∈ vs, v.oneCell' = true)
    (h : ∀ w', Blk w' b (updL f k vs) → Mod (· = b) w w' → w'.heap.size = w.heap.size → wpList P ops Q rest (a.put o.dst undef) w') : wpList P ops Q (o :: rest) a w := by
  refine wpList_plain hg fun K hK => ?_
  obtain ⟨w', hr, hB, hM, hz⟩ := run_storeCells_blk (P := P) b k vs 0 f w hb (by simpa using hs) h1
  obtain ⟨i, hi, hi2⟩ := Option.map_eq_some_iff.1 hsz
  have hsize : v.cells.size = i.size := by rw [hi2, ← hv]; simp
  unfold Oper.wp
  have : (execOp a.eval o).run P w = .ok .skip w' := by
    simp [execOp, hop, hx, hy, Instr.storeAt, Instr.sureAddr, storeVar, sizeOf, typeInfo, hi, hsize, hv, hr]
  rw [this]
  exact hK _ _ (h w' (by simpa using hB) hM hz)
/-- A store of one cell. -/
theorem wpList_store1 {P : Program} {w : World} {ops : Array Oper} {rest : List Oper} {o : Oper} {a : Act} {Q : Exit → Act → World → Prop} (hg : o.guard = none) (t : TypeId) (x y : Operand) (hop : o.op = .store t x y)
    (b k : Nat) (f : Nat → Option Value) (v u : Value) (hx : a.eval x = .pointer (some ⟨b, k, none⟩)) (hy : a.eval y = v) (hv : v.cells = #[v]) (hsz : (P.info? t).map (·.size) = some 1) (hb : Blk w b f)
    (hu : f k = some u) (h1 : v.oneCell' = true)
    (h : ∀ w', Blk w' b (upd f k v) → Mod (· = b) w w' → w'.heap.size = w.heap.size → wpList P ops Q rest (a.put o.dst undef) w') : wpList P ops Q (o :: rest) a w :=
  wpList_store_blk hg t x y hop b k f v [v] hx hy (by rw [hv]) hsz hb (fun j hj => by
      have : j = 0 := by simpa using hj
      subst this; rw [Nat.add_zero, hu]; rfl) (fun v' hv' => by rw [List.mem_singleton.1 hv']; exact h1)
    (fun w' hB hM hz => h w' (by rw [updL_cons, updL_nil] at hB; exact hB) hM hz)
/-- A value is laid into a block of its own. -/
theorem wpList_box {P : Program} {w : World} {ops : Array Oper} {rest : List Oper} {o : Oper} {a : Act} {Q : Exit → Act → World → Prop} (hg : o.guard = none) (t : TypeId) (x : Operand) (hop : o.op = .box t x)
    (v : Value) (cs : Array Value) (hx : a.eval x = v) (hv : v.cells = cs)
    (h : ∀ g w', Blk w' g (fun j => cs[j]?) → w.heap.size = g → Mod (fun _ => False) w w' → w'.heap.size = g + 1 → w'.heap[g]? = some (.cells cs t (0, 0)) → wpList P ops Q rest (a.put o.dst (.pointer (some ⟨g, 0, none⟩))) w') : wpList P ops Q (o :: rest) a w := by
  refine wpList_plain hg fun K hK => ?_
  unfold Oper.wp
  have : (execOp a.eval o).run P w = .ok (.value (.pointer (some ⟨w.heap.size, 0, none⟩))) (w.alloc (.cells cs t)) := by
    simp [execOp, hop, hx, Instr.box, newVar, newRow, hv]
  rw [this]
  exact hK _ _ (h _ _ (Blk.new w cs t) rfl (Mod.alloc _ _ _) (by simp) (heap_alloc_new w _))
/-- A zero value is laid into a block of its own. -/
theorem wpList_alloc {P : Program} {w : World} {ops : Array Oper} {rest : List Oper} {o : Oper} {a : Act} {Q : Exit → Act → World → Prop} (hg : o.guard = none) (t : TypeId) (hop : o.op = .alloc t)
    (z : Value) (cs : Array Value) (hz : (P.info? t).map (·.zero) = some (some z)) (hv : z.cells = cs)
    (h : ∀ g w', Blk w' g (fun j => cs[j]?) → w.heap.size = g → Mod (fun _ => False) w w' → w'.heap.size = g + 1 → w'.heap[g]? = some (.cells cs t (0, 0)) → wpList P ops Q rest (a.put o.dst (.pointer (some ⟨g, 0, none⟩))) w') : wpList P ops Q (o :: rest) a w := by
  refine wpList_plain hg fun K hK => ?_
  obtain ⟨i, hi, hi2⟩ := Option.map_eq_some_iff.1 hz
  unfold Oper.wp
  have : (execOp a.eval o).run P w = .ok (.value (.pointer (some ⟨w.heap.size, 0, none⟩))) (w.alloc (.cells cs t)) := by
    simp [execOp, hop, Instr.alloc, zeroValue, typeInfo, hi, hi2, newVar, newRow, hv]
  rw [this]
  exact hK _ _ (h _ _ (Blk.new w cs t) rfl (Mod.alloc _ _ _) (by simp) (heap_alloc_new w _))
/-- Rows of structs (or numbers), with what stands behind them. -/
def rows {α : Type} (enc : α → List Value) (xs : List α) (ex : List Value) : Nat → Option Value := fun j => (xs.flatMap enc ++ ex)[j]?
theorem flat_len {α : Type} {enc : α → List Value} {s : Nat} (hs : ∀ x, (enc x).length = s) (xs : List α) : (xs.flatMap enc).length = xs.length * s := by
  induction xs with
  | nil => simp
  | cons x xs ih => simp [hs, ih, Nat.succ_mul, Nat.add_comm]
theorem flat_get {α : Type} {enc : α → List Value} {s : Nat} (hs : ∀ x, (enc x).length = s) : ∀ (xs : List α) (i c : Nat) (x : α), xs[i]? = some x → c < s → (xs.flatMap enc)[i * s + c]? = (enc x)[c]?
  | [], i, c, x, h, _ => by simp at h
  | y :: xs, 0, c, x, h, hc => by
    simp at h; subst h; simp only [List.flatMap_cons, Nat.zero_mul, Nat.zero_add]
    rw [List.getElem?_append_left (by rw [hs]; exact hc)]
  | y :: xs, i + 1, c, x, h, hc => by
    simp only [List.flatMap_cons]
    rw [List.getElem?_append_right (by rw [hs, Nat.succ_mul]; omega), hs, show (i + 1) * s + c - s = i * s + c by rw [Nat.succ_mul]; omega]
    exact flat_get hs xs i c x (by simpa using h) hc
theorem rows_get {α : Type} {enc : α → List Value} {s : Nat} (hs : ∀ x, (enc x).length = s) {xs : List α} {ex : List Value} {i c : Nat} {x : α} (h : xs[i]? = some x) (hc : c < s) : rows enc xs ex (i * s + c) = (enc x)[c]? := by
  unfold rows
  have hl := flat_len hs xs
  have hi : i < xs.length := (List.getElem?_eq_some_iff.1 h).1
  have : i * s + c < xs.length * s := by
    have := Nat.mul_le_mul_right s (show i + 1 ≤ xs.length by omega)
    rw [Nat.succ_mul] at this; omega
  rw [List.getElem?_append_left (by omega)]
  exact flat_get hs xs i c x h hc
theorem rows_updL {α : Type} {enc : α → List Value} {s : Nat} (hs : ∀ x, (enc x).length = s) {xs : List α} {ex : List Value} {i c : Nat} {x y : α} {vs : List Value} (h : xs[i]? = some x) (hc : c + vs.length ≤ s)
    (hy : enc y = (enc x).take c ++ vs ++ (enc x).drop (c + vs.length)) : updL (rows enc xs ex) (i * s + c) vs = rows enc (xs.set i y) ex := by
  funext j
  have hi : i < xs.length := (List.getElem?_eq_some_iff.1 h).1
  have hl := flat_len hs xs
  have hl2 := flat_len hs (xs.set i y)
  have hm := Nat.mul_le_mul_right s (show i + 1 ≤ xs.length by omega)
  rw [Nat.succ_mul] at hm
  rcases Nat.eq_zero_or_pos s with h0 | hp
  · subst h0
    have : vs = [] := List.eq_nil_of_length_eq_zero (by omega)
    subst this
    rw [updL_nil]; unfold rows
    rw [List.eq_nil_of_length_eq_zero (l := xs.flatMap enc) (by rw [hl]; simp), List.eq_nil_of_length_eq_zero (l := (xs.set i y).flatMap enc) (by rw [hl2]; simp)]
  by_cases hj : j < xs.length * s
  · have hq : j / s < xs.length := Nat.div_lt_of_lt_mul (by rw [Nat.mul_comm]; exact hj)
    have hr : j % s < s := Nat.mod_lt _ hp
    have ej : j = (j / s) * s + j % s := by rw [Nat.mul_comm]; exact (Nat.div_add_mod j s).symm
    have g2 : rows enc (xs.set i y) ex j = (enc ((xs.set i y)[j / s]'(by simpa using hq)))[j % s]? := by
      have := rows_get hs (ex := ex) (xs := xs.set i y) (i := j / s) (c := j % s) (List.getElem?_eq_getElem (by simpa using hq)) hr
      rw [← ej] at this; exact this
    have g1 : rows enc xs ex j = (enc xs[j / s])[j % s]? := by
      have := rows_get hs (ex := ex) (xs := xs) (i := j / s) (c := j % s) (List.getElem?_eq_getElem hq) hr
      rw [← ej] at this; exact this
    rw [g2]
    unfold updL
    have hx : xs[i] = x := by rw [List.getElem?_eq_getElem hi] at h; exact Option.some.inj h
    by_cases hji : j / s = i
    · have eset : (xs.set i y)[j / s]'(by simpa using hq) = y := by simp [hji]
      have eold : xs[j / s] = x := by simp [hji, hx]
      rw [eset, hy, g1, eold]
      have e3 : j = i * s + j % s := by rw [← hji]; exact ej
      have hlx := hs x
      split
      · rename_i hc2
        rw [List.append_assoc, List.getElem?_append_right (by simp; omega), List.getElem?_append_left (by simp; omega)]
        congr 1; simp; omega
      · rename_i hc2
        by_cases h5 : j % s < c
        · rw [List.append_assoc, List.getElem?_append_left (by simp; omega), List.getElem?_take, if_pos h5]
        · rw [List.getElem?_append_right (by simp; omega), List.getElem?_drop]
          congr 1; simp; omega
    · have eset : (xs.set i y)[j / s]'(by simpa using hq) = xs[j / s] := by
        rw [List.getElem_set_ne (Ne.symm hji)]
      rw [eset]
      have hne : ¬ (i * s + c ≤ j ∧ j < i * s + c + vs.length) := by
        intro hh
        apply hji
        have h1 : j / s ≥ i := by rw [ge_iff_le, Nat.le_div_iff_mul_le hp]; omega
        have h2 : j / s < i + 1 := by rw [Nat.div_lt_iff_lt_mul hp, Nat.succ_mul]; omega
        omega
      rw [if_neg hne]
      exact g1
  · unfold updL
    rw [if_neg (by omega)]
    unfold rows
    rw [List.length_set] at hl2
    rw [List.getElem?_append_right (by omega), List.getElem?_append_right (by omega), hl, hl2]
end Go.Tat
/- Maps as lists of keys with values: what the operations on them do. -/
namespace Go.Tat
open Go.RowKit
/-- What the model asks of a key's type. -/
structure KeyLaw (P : Program) (kt : TypeId) {κ : Type} [DecidableEq κ] (ek : κ → Value) : Prop where
  desc : ∃ d, P.underlying kt = some d ∧ ∀ x y, Instr.sameNow d (ek x) (ek y) = some (decide (x = y))
  check : ∀ (empty : Bool) (x : κ) (w : World), (Instr.checkKey empty 10000 kt (ek x)).run P w = .ok () w
  same : ∀ x, Instr.sameBits 10000 (ek x) (ek x) = true
theorem checkKey_int {P : Program} {kt : TypeId} {k : IntKind} (h : P.underlying kt = some (.int k)) (e : Bool) (n : Nat) (v : Value) (w : World) : (Instr.checkKey e (n + 1) kt v).run P w = .ok () w := by
  simp [Instr.checkKey, run_underlying h]
theorem checkKey_string {P : Program} {kt : TypeId} (h : P.underlying kt = some .string) (e : Bool) (n : Nat) (v : Value) (w : World) : (Instr.checkKey e (n + 1) kt v).run P w = .ok () w := by
  simp [Instr.checkKey, run_underlying h]
theorem sameBits_int (n : Nat) (k : IntKind) (x : Int) : Instr.sameBits n (.int k x) (.int k x) = true := by
  unfold Instr.sameBits; simp
theorem beq_bytes (x y : ByteArray) : (x == y) = decide (x = y) := by
  have h : (x == y) = true ↔ x = y := by
    obtain ⟨x⟩ := x; obtain ⟨y⟩ := y
    show (x == y) = true ↔ _
    simp
  by_cases e : x = y
  · rw [decide_eq_true e, h.2 e]
  · rw [decide_eq_false e]
    cases hb : (x == y) with
    | false => rfl
    | true => exact absurd (h.1 hb) e
theorem sameBits_string (n : Nat) (x : ByteArray) : Instr.sameBits n (.string x) (.string x) = true := by
  unfold Instr.sameBits; simp [beq_bytes]
theorem KeyLaw.int {P : Program} {kt : TypeId} {k : IntKind} (h : P.underlying kt = some (.int k)) : KeyLaw P kt (Value.int k) where
  desc := ⟨_, h, fun x y => by simp [Instr.sameNow, Bool.beq_eq_decide_eq]⟩
  check := fun e x w => checkKey_int h e 9999 _ w
  same := fun x => sameBits_int _ k x
theorem KeyLaw.string {P : Program} {kt : TypeId} (h : P.underlying kt = some .string) : KeyLaw P kt Value.string where
  desc := ⟨_, h, fun x y => by
    show some (x == y) = _
    rw [beq_bytes]⟩
  check := fun e x w => checkKey_string h e 9999 _ w
  same := fun x => sameBits_string _ x
theorem run_getObj_map' {P : Program} {w : World} {b : Nat} {es : Array MapEntry} {clock : Nat} (hb : w.heap[b]? = some (.map es clock)) : (getObj b).run P w = .ok (.map es clock) w := by
  simp [getObj, Sem.run, hb]
section
variable {κ ν : Type}
/-- The map at b: these keys with these values. -/
structure MapAt (w : World) (b : Nat) (ek : κ → Value) (ev : ν → Value) (L : List (κ × ν)) : Prop where
  nd : (L.map (·.1)).Nodup
  rep : ∃ es clock, w.heap[b]? = some (.map es clock) ∧ es.toList.map (fun e => (e.key, e.val)) = L.map (fun p => (ek p.1, ev p.2)) ∧ (∀ e ∈ es.toList, e.born < clock) ∧ (es.toList.map (·.born)).Nodup
theorem MapAt.lt {w : World} {b : Nat} {ek : κ → Value} {ev : ν → Value} {L : List (κ × ν)} (h : MapAt w b ek ev L) : b < w.heap.size := by
  obtain ⟨_, _, hb, _⟩ := h.rep
  exact (Array.getElem?_eq_some_iff.1 hb).1
theorem MapAt.mod {w w' : World} {b : Nat} {ek : κ → Value} {ev : ν → Value} {L : List (κ × ν)} {F : Nat → Prop} (h : MapAt w b ek ev L) (m : Mod F w w') (hn : ¬ F b) : MapAt w' b ek ev L := by
  obtain ⟨es, c, hb, r⟩ := h.rep
  exact ⟨h.nd, es, c, (m.block b h.lt hn).trans hb, r⟩
theorem MapAt.below {w w' : World} {b : Nat} {ek : κ → Value} {ev : ν → Value} {L : List (κ × ν)} (h : MapAt w b ek ev L) (m : Below w.heap.size w w') : MapAt w' b ek ev L :=
  h.mod (Mod.of_below (S := fun _ => False) m) (by simp)
/-- A new map. -/
theorem wpList_makeMap {P : Program} {w : World} {ops : Array Oper} {rest : List Oper} {o : Oper} {a : Act} {Q : Exit → Act → World → Prop} (hg : o.guard = none) (t : TypeId) (hop : o.op = .makeMap t none) (ek : κ → Value) (ev : ν → Value)
    (h : MapAt (w.alloc (.map #[] 0)) w.heap.size ek ev ([] : List (κ × ν)) → wpList P ops Q rest (a.put o.dst (.map (some w.heap.size))) (w.alloc (.map #[] 0))) : wpList P ops Q (o :: rest) a w := by
  refine wpList_plain hg fun K hK => ?_
  unfold Oper.wp
  have : (execOp a.eval o).run P w = .ok (.value (.map (some w.heap.size))) (w.alloc (.map #[] 0)) := by
    simp [execOp, hop, Instr.makeMap]
  rw [this]
  exact hK _ _ (h ⟨by simp, #[], 0, by show (w.heap.push _)[w.heap.size]? = _; simp, by simp, by simp, by simp⟩)
theorem size_of_rep {es : Array MapEntry} {L : List (κ × ν)} {ek : κ → Value} {ev : ν → Value} (h : es.toList.map (fun e => (e.key, e.val)) = L.map (fun p => (ek p.1, ev p.2))) : es.size = L.length := by
  have := congrArg List.length h
  simpa using this
/-- The number of entries. -/
theorem wpList_mapLen {P : Program} {w : World} {ops : Array Oper} {rest : List Oper} {o : Oper} {a : Act} {Q : Exit → Act → World → Prop} (hg : o.guard = none) (t kt et : TypeId) (x : Operand) (hop : o.op = Op.call { callee := Callee.builtin Builtin.len, args := #[x], argTypes := #[t] })
    (ht : P.underlying t = some (.map kt et)) (ek : κ → Value) (ev : ν → Value) (b : Nat) (L : List (κ × ν)) (hm : MapAt w b ek ev L) (hx : a.eval x = .map (some b))
    (h : wpList P ops Q rest (a.put o.dst (.int .i64 (L.length : Int))) w) : wpList P ops Q (o :: rest) a w := by
  refine wpList_plain hg fun K hK => ?_
  obtain ⟨es, c, hb, hes, _⟩ := hm.rep
  unfold Oper.wp
  have : (execOp a.eval o).run P w = .ok (.value (.int .i64 (L.length : Int))) w := by
    simp [execOp, hop, resolve, invoke, builtin, Builtin.len_, hx, run_underlying ht, run_getObj_map' hb, size_of_rep hes, goInt]
  rw [this]
  exact hK _ _ h
end
section
variable {κ ν : Type} [DecidableEq κ]
/-- The value at a key, and where it stands. -/
def mpos : List (κ × ν) → κ → Option (Nat × ν)
  | [], _ => none
  | p :: L, x => if p.1 = x then some (0, p.2) else (mpos L x).map fun q => (q.1 + 1, q.2)
def mget (L : List (κ × ν)) (x : κ) : Option ν := (mpos L x).map (·.2)
def mput (L : List (κ × ν)) (x : κ) (y : ν) : List (κ × ν) := match mpos L x with | some q => L.set q.1 (x, y) | none => L ++ [(x, y)]
def mdel (L : List (κ × ν)) (x : κ) : List (κ × ν) := match mpos L x with | some q => L.eraseIdx q.1 | none => L
/-- Where a key stands. -/
theorem findNow_eq {d : TypeDesc} {ek : κ → Value} {ev : ν → Value} (hd : ∀ x y, Instr.sameNow d (ek x) (ek y) = some (decide (x = y))) (x : κ) : ∀ (es : List MapEntry) (L : List (κ × ν)) (i : Nat),
    es.map (fun e => (e.key, e.val)) = L.map (fun p => (ek p.1, ev p.2)) →
    Instr.findNow d (ek x) es i = some ((mpos L x).map fun j => (i + j.1, ev j.2))
  | [], L, i, h => by
    have : L = [] := by simpa using h.symm
    subst this; rfl
  | e :: es, [], i, h => by simp at h
  | e :: es, p :: L, i, h => by
    simp only [List.map_cons, List.cons.injEq, Prod.mk.injEq] at h
    obtain ⟨⟨h1, h2⟩, h3⟩ := h
    have ih := findNow_eq hd x es L (i + 1) h3
    rw [Instr.findNow, h1, hd, mpos]
    by_cases hx : x = p.1
    · rw [decide_eq_true hx, if_pos hx.symm]
      simp [h2]
    · rw [decide_eq_false hx, if_neg fun e => hx e.symm]
      show Instr.findNow d (ek x) es (i + 1) = _
      rw [ih]
      cases mpos L x <;> simp
      omega
theorem findKey_run {P : Program} {kt : TypeId} {ek : κ → Value} (hk : KeyLaw P kt ek) {ev : ν → Value} (x : κ) (es : List MapEntry) (L : List (κ × ν)) (w : World) (h : es.map (fun e => (e.key, e.val)) = L.map (fun p => (ek p.1, ev p.2))) :
    (Instr.findKey kt (ek x) es).run P w = .ok ((mpos L x).map fun j => (j.1, ev j.2)) w := by
  obtain ⟨d, hd, hs⟩ := hk.desc
  have := findNow_eq (ev := ev) hs x es L 0 h
  simp [Instr.findKey, run_underlying hd, this]
/-- A look-up, as an equation. -/
theorem MapAt.run_lookup {P : Program} {w : World} {t kt et : TypeId} (ok : Bool)
    (ht : P.underlying t = some (.map kt et)) {ek : κ → Value} (hk : KeyLaw P kt ek) {ev : ν → Value} {b : Nat} {L : List (κ × ν)} (hm : MapAt w b ek ev L) (k : κ) (z : Value) (hz : (P.info? et).map (·.zero) = some (some z)) :
    (Instr.lookup t (.map (some b)) (ek k) ok).run P w = .ok (if ok then .tuple #[((mget L k).map ev).getD z, .bool (mget L k).isSome] else ((mget L k).map ev).getD z) w := by
  obtain ⟨es, c, hb, hes, _⟩ := hm.rep
  obtain ⟨i, hi, hi2⟩ := Option.map_eq_some_iff.1 hz
  simp only [Instr.lookup, Sem.run_bind, run_underlying ht, Result.andThen_ok, run_getObj_map' hb, Sem.run_pure, hk.check, findKey_run hk k es.toList L w hes, mget]
  cases h2 : mpos L k with
  | none => cases ok <;> simp [zeroValue, typeInfo, hi, hi2]
  | some v => cases ok <;> simp
/-- The same, where it is known what stands at the key. -/
theorem MapAt.look {P : Program} {w : World} {t kt et : TypeId}
    (ht : P.underlying t = some (.map kt et)) {ek : κ → Value} (hk : KeyLaw P kt ek) {ev : ν → Value} {b : Nat} {L : List (κ × ν)} (hm : MapAt w b ek ev L) (k : κ) (z : Value) (hz : (P.info? et).map (·.zero) = some (some z)) (r : Option ν) (hr : mget L k = r) (v : Value) (hv : (r.map ev).getD z = v) :
    (Instr.lookup t (.map (some b)) (ek k) false).run P w = .ok v w ∧ (Instr.lookup t (.map (some b)) (ek k) true).run P w = .ok (.tuple #[v, .bool r.isSome]) w := by
  subst hr; subst hv
  exact ⟨hm.run_lookup false ht hk k z hz, hm.run_lookup true ht hk k z hz⟩
theorem mpos_get : ∀ (L : List (κ × ν)) (x : κ) (q : Nat × ν), mpos L x = some q → L[q.1]? = some (x, q.2)
  | [], x, q, h => by simp [mpos] at h
  | p :: L, x, q, h => by
    rw [mpos] at h
    by_cases hx : p.1 = x
    · rw [if_pos hx] at h
      obtain rfl := (Option.some.inj h).symm
      show some p = _
      rw [← hx]
    · rw [if_neg hx] at h
      obtain ⟨q', h', rfl⟩ := Option.map_eq_some_iff.1 h
      simpa using mpos_get L x q' h'
theorem mpos_none : ∀ (L : List (κ × ν)) (x : κ), mpos L x = none ↔ ∀ p ∈ L, p.1 ≠ x
  | [], x => by simp [mpos]
  | p :: L, x => by
    rw [mpos]
    by_cases hx : p.1 = x
    · simp [hx]
    · simp [hx, mpos_none L x]
theorem mput_keys {L : List (κ × ν)} {x : κ} {y : ν} : (mput L x y).map (·.1) = if x ∈ L.map (·.1) then L.map (·.1) else L.map (·.1) ++ [x] := by
  unfold mput
  cases h : mpos L x with
  | none =>
    have := (mpos_none L x).1 h
    rw [if_neg (by simp only [List.mem_map]; rintro ⟨p, hp, e⟩; exact this p hp e)]
    simp
  | some q =>
    have := mpos_get L x q h
    have hm : x ∈ L.map (·.1) := List.mem_map.2 ⟨_, List.mem_of_getElem? this, rfl⟩
    rw [if_pos hm]
    apply List.ext_getElem?
    intro j
    rw [List.getElem?_map, List.getElem?_map, List.getElem?_set]
    split
    · rename_i e
      subst e
      split
      · rw [this]; rfl
      · rename_i hl
        rw [List.getElem?_eq_none (by omega)]
    · rfl
theorem mput_nodup {L : List (κ × ν)} {x : κ} {y : ν} (h : (L.map (·.1)).Nodup) : ((mput L x y).map (·.1)).Nodup := by
  rw [mput_keys]
  split
  · exact h
  · rename_i hx
    rw [List.nodup_append]
    exact ⟨h, by simp, fun a ha b hb => by simp only [List.mem_singleton] at hb; subst hb; exact fun e => hx (e ▸ ha)⟩
/-- A value put at a key. -/
theorem wpList_mapUpdate {P : Program} {w : World} {ops : Array Oper} {rest : List Oper} {o : Oper} {a : Act} {Q : Exit → Act → World → Prop} (hg : o.guard = none) (t kt et : TypeId) (x y z : Operand) (hop : o.op = .mapUpdate t x y z)
    (ht : P.underlying t = some (.map kt et)) {ek : κ → Value} (hk : KeyLaw P kt ek) (ev : ν → Value) (b : Nat) (L : List (κ × ν)) (hm : MapAt w b ek ev L) (k : κ) (v : ν)
    (hx : a.eval x = .map (some b)) (hy : a.eval y = ek k) (hz : a.eval z = ev v)
    (h : ∀ w', MapAt w' b ek ev (mput L k v) → Mod (· = b) w w' → wpList P ops Q rest (a.put o.dst undef) w') : wpList P ops Q (o :: rest) a w := by
  refine wpList_plain hg fun K hK => ?_
  obtain ⟨es, c, hb, hes, hc, hn⟩ := hm.rep
  have hlt := hm.lt
  have hfind := findKey_run hk k es.toList L w hes
  have hlen := size_of_rep hes
  unfold Oper.wp
  cases hp : mpos L k with
  | none =>
    rw [hp] at hfind
    have : (execOp a.eval o).run P w = .ok .skip { w with heap := w.heap.setIfInBounds b (.map (es.push { key := ek k, val := ev v, born := c }) (c + 1)) } := by
      simp [execOp, hop, hx, hy, hz, Instr.mapUpdate, run_underlying ht, run_getObj_map' hb, hk.check, hfind, MapKept.run_setObj_map _ hb]
    rw [this]
    refine hK _ _ (h _ ⟨mput_nodup hm.nd, es.push { key := ek k, val := ev v, born := c }, c + 1, ?_, ?_, ?_, ?_⟩ ?_)
    · simp [hlt]
    · simp [mput, hp, hes]
    · intro e he
      simp at he
      rcases he with he | rfl
      · have := hc e (by simpa using he); omega
      · simp
    · rw [Array.toList_push, List.map_append, List.nodup_append]
      refine ⟨hn, by simp, fun x hx y hy => ?_⟩
      simp only [List.map_cons, List.map_nil, List.mem_singleton] at hy
      obtain ⟨e, he, rfl⟩ := List.mem_map.1 hx
      have := hc e he
      omega
    · exact ⟨rfl, rfl, rfl, by simp, fun j hj hne => by simp [Array.getElem?_set, Ne.symm hne]⟩
  | some q =>
    rw [hp] at hfind
    have hq := mpos_get L k q hp
    have hql : q.1 < es.size := by
      have := (List.getElem?_eq_some_iff.1 hq).1
      omega
    have hkey : (es[q.1]?).map (·.key) = some (ek k) := by
      have e1 := congrArg (fun l => l[q.1]?) hes
      simp only [List.getElem?_map, hq] at e1
      rw [Array.getElem?_toList] at e1
      cases h3 : es[q.1]? with
      | none => rw [h3] at e1; simp at e1
      | some e => rw [h3] at e1; simp at e1; simp [e1.1]
    have : (execOp a.eval o).run P w = .ok .skip { w with heap := w.heap.setIfInBounds b (.map (es.modify q.1 fun e => { e with key := ek k, val := ev v }) c) } := by
      simp [execOp, hop, hx, hy, hz, Instr.mapUpdate, run_underlying ht, run_getObj_map' hb, hk.check, hfind, MapKept.run_setObj_map _ hb, hkey, Instr.keyThatStays, hk.same]
    rw [this]
    refine hK _ _ (h _ ⟨mput_nodup hm.nd, es.modify q.1 fun e => { e with key := ek k, val := ev v }, c, ?_, ?_, ?_, ?_⟩ ?_)
    · simp [hlt]
    · rw [Array.toList_modify]
      simp only [mput, hp]
      apply List.ext_getElem?
      intro j
      have e1 := congrArg (fun l => l[j]?) hes
      simp only [List.getElem?_map] at e1 ⊢
      rw [List.getElem?_modify, List.getElem?_set]
      by_cases hj : q.1 = j
      · have : es.toList[j]? = some (es.toList[j]'(by simp; omega)) := List.getElem?_eq_getElem _
        subst hj
        rw [this]
        simp [show q.1 < L.length by omega]
      · simp only [hj, if_false]
        simpa using e1
    · intro e he
      rw [Array.toList_modify] at he
      obtain ⟨j, hj⟩ := List.mem_iff_getElem?.1 he
      rw [List.getElem?_modify] at hj
      cases h3 : es.toList[j]? with
      | none => rw [h3] at hj; simp at hj
      | some e' =>
        rw [h3] at hj
        have := hc e' (List.mem_of_getElem? h3)
        simp at hj
        subst hj
        split <;> exact this
    · have : (es.modify q.1 fun e => { e with key := ek k, val := ev v }).toList.map (·.born) = es.toList.map (·.born) := by
        rw [Array.toList_modify]
        apply List.ext_getElem?
        intro j
        rw [List.getElem?_map, List.getElem?_map, List.getElem?_modify]
        cases es.toList[j]? with
        | none => rfl
        | some e => simp; split <;> rfl
      rw [this]; exact hn
    · exact ⟨rfl, rfl, rfl, by simp, fun j hj hne => by simp [Array.getElem?_set, Ne.symm hne]⟩
theorem mput_nil (x : κ) (v : ν) : mput [] x v = [(x, v)] := rfl
theorem mput_cons (p : κ × ν) (L : List (κ × ν)) (x : κ) (v : ν) : mput (p :: L) x v = if p.1 = x then (x, v) :: L else p :: mput L x v := by
  unfold mput
  rw [mpos]
  by_cases h : p.1 = x
  · simp [h]
  · rw [if_neg h, if_neg h]
    cases mpos L x <;> simp
theorem mget_nil (x : κ) : mget ([] : List (κ × ν)) x = none := rfl
theorem mget_cons (p : κ × ν) (L : List (κ × ν)) (x : κ) : mget (p :: L) x = if p.1 = x then some p.2 else mget L x := by
  unfold mget
  rw [mpos]
  by_cases h : p.1 = x
  · simp [h]
  · rw [if_neg h, if_neg h]
    cases mpos L x <;> simp
theorem mget_mput (L : List (κ × ν)) (x y : κ) (v : ν) : mget (mput L x v) y = if y = x then some v else mget L y := by
  induction L with
  | nil =>
    rw [mput_nil, mget_cons, mget_nil]
    by_cases h : y = x
    · simp [h]
    · rw [if_neg h, if_neg (fun e => h e.symm)]
  | cons p L ih =>
    rw [mput_cons]
    by_cases hp : p.1 = x
    · rw [if_pos hp, mget_cons, mget_cons]
      by_cases h : y = x
      · simp [h]
      · rw [if_neg h, if_neg (fun e => h e.symm), if_neg (fun e => h (by rw [← e]; exact hp))]
    · rw [if_neg hp, mget_cons, mget_cons, ih]
      by_cases h : y = x
      · subst h; simp [hp]
      · simp [h]
theorem mput_length (L : List (κ × ν)) (x : κ) (v : ν) : (mput L x v).length = if (mget L x).isSome then L.length else L.length + 1 := by
  induction L with
  | nil => rfl
  | cons p L ih =>
    rw [mput_cons, mget_cons]
    by_cases hp : p.1 = x
    · simp [hp]
    · rw [if_neg hp, if_neg hp, List.length_cons, ih]
      split <;> simp
end
end Go.Tat
/- Assertions on memory that speak of blocks of their own; what a call may have changed. -/
namespace Go.Tat
open Go.RowKit Go.Proofs.YtecgnfklfgjgaaaW.PrintWords
/-- An assertion: it speaks of its own blocks alone. -/
structure Asr where
  fp : Nat → Prop
  holds : World → Prop
  lt : ∀ {w : World} {k : Nat}, holds w → fp k → k < w.heap.size
  loc : ∀ {w w' : World}, holds w → (∀ k, fp k → w'.heap[k]? = w.heap[k]?) → holds w'
def Apart (a b : Asr) : Prop := ∀ k, a.fp k → ¬ b.fp k
structure Sat (w : World) (L : List Asr) : Prop where
  all : ∀ a ∈ L, a.holds w
  dis : L.Pairwise Apart
theorem Sat.get {w : World} {L : List Asr} (h : Sat w L) (i : Nat) {a : Asr} (hi : L[i]? = some a) : a.holds w := h.all a (List.mem_of_getElem? hi)
theorem Sat.nil (w : World) : Sat w [] := ⟨by simp, List.Pairwise.nil⟩
theorem Sat.keep {w w' : World} {L : List Asr} (h : Sat w L) (m : ∀ a ∈ L, ∀ k, a.fp k → w'.heap[k]? = w.heap[k]?) : Sat w' L :=
  ⟨fun a ha => a.loc (h.all a ha) (m a ha), h.dis⟩
theorem split_at {α : Type} {L : List α} {i : Nat} {a : α} (hi : L[i]? = some a) : L = L.take i ++ a :: L.drop (i + 1) := by
  obtain ⟨hl, he⟩ := List.getElem?_eq_some_iff.1 hi
  rw [← he, ← List.drop_eq_getElem_cons hl, List.take_append_drop]
theorem set_at {α : Type} {L : List α} {i : Nat} {a : α} (hi : L[i]? = some a) (a' : α) : L.set i a' = L.take i ++ a' :: L.drop (i + 1) := by
  obtain ⟨hl, _⟩ := List.getElem?_eq_some_iff.1 hi
  rw [List.set_eq_take_append_cons_drop, if_pos hl]
/-- One assertion's blocks were changed. -/
theorem Sat.upd {w w' : World} {L : List Asr} (h : Sat w L) (i : Nat) {a a' : Asr} (hi : L[i]? = some a) (m : Mod a.fp w w') (ha : a'.holds w') (hf : ∀ k, a'.fp k → a.fp k ∨ w.heap.size ≤ k) : Sat w' (L.set i a') := by
  rw [set_at hi]
  have e := split_at hi
  generalize L.take i = L1 at *
  generalize L.drop (i + 1) = L2 at *
  subst e
  have hd := h.dis
  rw [List.pairwise_append, List.pairwise_cons] at hd
  obtain ⟨d1, ⟨d2, d3⟩, d4⟩ := hd
  refine ⟨fun b hb => ?_, ?_⟩
  · rcases List.mem_append.1 hb with hb | hb
    · exact b.loc (h.all b (by simp [hb])) fun k hk => m.block k (b.lt (h.all b (by simp [hb])) hk) (d4 b hb a (by simp) k hk)
    · rcases List.mem_cons.1 hb with rfl | hb
      · exact ha
      · exact b.loc (h.all b (by simp [hb])) fun k hk => m.block k (b.lt (h.all b (by simp [hb])) hk) fun hka => d2 b hb k hka hk
  · rw [List.pairwise_append, List.pairwise_cons]
    refine ⟨d1, ⟨fun b hb k hk hkb => ?_, d3⟩, fun b hb c hc k hk hkc => ?_⟩
    · rcases hf k hk with h1 | h1
      · exact d2 b hb k h1 hkb
      · have := b.lt (h.all b (by simp [hb])) hkb; omega
    · rcases List.mem_cons.1 hc with rfl | hc
      · rcases hf k hkc with h1 | h1
        · exact d4 b hb a (by simp) k hk h1
        · have := b.lt (h.all b (by simp [hb])) hk; omega
      · exact d4 b hb c (by simp [hc]) k hk hkc
theorem Sat.add {w w' : World} {L : List Asr} (h : Sat w L) {a : Asr} (m : Below w.heap.size w w') (ha : a.holds w') (hf : ∀ k, a.fp k → w.heap.size ≤ k) : Sat w' (L ++ [a]) := by
  refine ⟨fun b hb => ?_, ?_⟩
  · rcases List.mem_append.1 hb with hb | hb
    · exact b.loc (h.all b hb) fun k hk => m.block k (b.lt (h.all b hb) hk)
    · rw [List.mem_singleton.1 hb]; exact ha
  · rw [List.pairwise_append]
    refine ⟨h.dis, List.pairwise_singleton _ _, fun b hb c hc k hk hkc => ?_⟩
    rw [List.mem_singleton.1 hc] at hkc
    have h1 := b.lt (h.all b hb) hk
    have h2 := hf k hkc
    omega
theorem Sat.sub {w : World} {L M : List Asr} (h : Sat w L) (hs : M.Sublist L) : Sat w M := ⟨fun a ha => h.all a (hs.subset ha), h.dis.sublist hs⟩
theorem Apart.symm {a b : Asr} (h : Apart a b) : Apart b a := fun k hb ha => h k ha hb
theorem Sat.perm {w : World} {L M : List Asr} (h : Sat w L) (hs : M.Perm L) : Sat w M :=
  ⟨fun a ha => h.all a (hs.subset ha), (hs.pairwise_iff (fun h => Apart.symm h)).2 h.dis⟩
/-- Two assertions speak of other blocks. -/
theorem Sat.ne {w : World} {L : List Asr} (h : Sat w L) (i j : Nat) {a b : Asr} (hi : L[i]? = some a) (hj : L[j]? = some b) (hij : i < j) : Apart a b := by
  obtain ⟨h1, rfl⟩ := List.getElem?_eq_some_iff.1 hi
  obtain ⟨h2, rfl⟩ := List.getElem?_eq_some_iff.1 hj
  exact List.pairwise_iff_getElem.1 h.dis i j h1 h2 hij
/-! ### What a walk holds: F: which of the blocks of w0 it may change -/
structure St (F : Nat → Prop) (w0 w : World) (L : List Asr) : Prop where
  sat : Sat w L
  inn : ∀ a ∈ L, ∀ k, a.fp k → k < w0.heap.size → F k
  mod : Mod F w0 w
section
variable {F : Nat → Prop} {w0 w w' : World} {L : List Asr}
theorem St.start (h : Sat w L) (hF : ∀ a ∈ L, ∀ k, a.fp k → F k) : St F w w L := ⟨h, fun a ha k hk _ => hF a ha k hk, Mod.refl _ _⟩
theorem St.nil (F : Nat → Prop) (w : World) : St F w w [] := ⟨Sat.nil w, by simp, Mod.refl _ _⟩
theorem St.upd (h : St F w0 w L) (i : Nat) {a a' : Asr} (hi : L[i]? = some a) (m : Mod a.fp w w') (ha : a'.holds w') (hf : ∀ k, a'.fp k → a.fp k ∨ w.heap.size ≤ k) : St F w0 w' (L.set i a') := by
  have hmem := List.mem_of_getElem? hi
  refine ⟨h.sat.upd i hi m ha hf, fun b hb k hk hl => ?_, h.mod.trans' m fun k hl hk => h.inn a hmem k hk hl⟩
  rcases List.mem_or_eq_of_mem_set hb with hb | rfl
  · exact h.inn b hb k hk hl
  · rcases hf k hk with h1 | h1
    · exact h.inn a hmem k h1 hl
    · have := h.mod.size; omega
theorem St.below (h : St F w0 w L) (m : Below w.heap.size w w') : St F w0 w' L :=
  ⟨h.sat.keep fun a ha k hk => m.block k (a.lt (h.sat.all a ha) hk), h.inn, h.mod.trans (Mod.of_below m)⟩
theorem St.drew (h : St F w0 w L) : St F w0 w.drew L := h.below (Below.refl _ _).drew
theorem St.drewN (h : St F w0 w L) (n : Nat) : St F w0 (w.drewN n) L := h.below (pw_below_drewN (Below.refl _ _) n)
theorem St.alloc (h : St F w0 w L) (o : Obj) : St F w0 (w.alloc o) L := h.below ((Below.refl _ _).alloc (Nat.le_refl _) o)
theorem St.add (h : St F w0 w L) {a : Asr} (m : Below w.heap.size w w') (ha : a.holds w') (hf : ∀ k, a.fp k → w.heap.size ≤ k) : St F w0 w' (L ++ [a]) := by
  refine ⟨h.sat.add m ha hf, fun b hb k hk hl => ?_, h.mod.trans (Mod.of_below m)⟩
  rcases List.mem_append.1 hb with hb | hb
  · exact h.inn b hb k hk hl
  · rw [List.mem_singleton.1 hb] at hk
    have h1 := hf k hk
    have h2 := h.mod.size
    omega
theorem St.sub {M : List Asr} (h : St F w0 w L) (hs : M.Sublist L) : St F w0 w M := ⟨h.sat.sub hs, fun a ha => h.inn a (hs.subset ha), h.mod⟩
theorem St.drop (h : St F w0 w L) (i : Nat) : St F w0 w (L.eraseIdx i) := h.sub (List.eraseIdx_sublist L i)
theorem St.perm {M : List Asr} (h : St F w0 w L) (hs : M.Perm L) : St F w0 w M := ⟨h.sat.perm hs, fun a ha => h.inn a (hs.subset ha), h.mod⟩
theorem St.get (h : St F w0 w L) (i : Nat) {a : Asr} (hi : L[i]? = some a) : a.holds w := h.sat.get i hi
theorem St.ne (h : St F w0 w L) (i j : Nat) {a b : Asr} (hi : L[i]? = some a) (hj : L[j]? = some b) (hij : i < j) : Apart a b := h.sat.ne i j hi hj hij
end
/-! ### Blocks, slices, maps -/
/-- The block b holds these cells. -/
def blk (b : Nat) (cs : Array Value) (t : TypeId) : Asr where
  fp := (· = b)
  holds w := w.heap[b]? = some (.cells cs t (0, 0))
  lt h hk := by rw [hk]; exact (Array.getElem?_eq_some_iff.1 h).1
  loc h m := (m b rfl).trans h
/-- A slice of the call's own; it lies in F. -/
def slcF {α : Type} (F : Nat → Prop) (d : Kd α) (e : Nat) (v : Value) (xs : List α) : Asr where
  fp := F
  holds w := d.R e w 0 F v xs ∧ ∀ k, F k → k < w.heap.size
  lt h hk := h.2 _ hk
  loc {w w'} h m := ⟨Kd.R_move h.1 m, fun k hk => by
    have h1 := h.2 k hk
    have h2 := m k hk
    rw [Array.getElem?_eq_getElem h1] at h2
    exact (Array.getElem?_eq_some_iff.1 h2).1⟩
/-- A slice whose elements lie in its own block. -/
abbrev slc {α : Type} (d : Kd α) (e : Nat) (v : Value) (xs : List α) : Asr := slcF (fun k => v.ownBlock = some k) d e v xs
/-- A map. -/
def mapA {κ ν : Type} (b : Nat) (ek : κ → Value) (ev : ν → Value) (M : List (κ × ν)) : Asr where
  fp := (· = b)
  holds w := MapAt w b ek ev M
  lt h hk := by rw [hk]; exact h.lt
  loc h m := by
    obtain ⟨es, c, hb, r⟩ := h.rep
    exact ⟨h.nd, es, c, (m b rfl).trans hb, r⟩
/-- Assertions behind one: F is where they lie. -/
def Asr.ex {ι : Type} (F : Nat → Prop) (L : ι → List Asr) : Asr where
  fp := F
  holds w := (∃ i, Sat w (L i) ∧ ∀ a ∈ L i, ∀ k, a.fp k → F k) ∧ ∀ k, F k → k < w.heap.size
  lt h hk := h.2 _ hk
  loc {w w'} h m := by
    obtain ⟨⟨i, h, e⟩, hl⟩ := h
    refine ⟨⟨i, h.keep fun a ha k hk => m k (e a ha k hk), e⟩, fun k hk => ?_⟩
    have h1 := hl k hk
    have h2 := m k hk
    rw [Array.getElem?_eq_getElem h1] at h2
    exact (Array.getElem?_eq_some_iff.1 h2).1
theorem slc_of {α : Type} {d : Kd α} {e : Nat} {w : World} {b : Nat} {ok : Nat → Prop} {v : Value} {xs : List α} (h : d.R e w b ok v xs) (hE : d.E = []) : (slc d e v xs).holds w := by
  have h1 := Kd.R_lower (Kd.R_bound h) (Nat.zero_le b)
  refine ⟨⟨fun k hk => hk, ?_⟩, fun k hk => (h1.1 k hk).2.2.1⟩
  obtain ⟨inner, ho, hr⟩ := h1.2
  exact ⟨inner, ho, hr.imp_ fun p c hp => d.M_mono (fun k hk => by
    obtain ⟨_, _, _, q, hq, _⟩ := hk
    rw [hE] at hq; simp at hq) (d.M_bound hp)⟩
theorem slc_R {α : Type} {d : Kd α} {e : Nat} {w : World} {v : Value} {xs : List α} (h : (slc d e v xs).holds w) : d.R e w 0 (fun k => v.ownBlock = some k) v xs := h.1
theorem slc_nil {α : Type} (d : Kd α) (e : Nat) (w : World) : (slc d e (.slice none 0 0) []).holds w := ⟨Kd.R_nil _ _ _ _ _, by simp [Value.ownBlock]⟩
section
variable {F : Nat → Prop} {w0 w w' : World} {L : List Asr}
theorem St.set (h : St F w0 w L) (i : Nat) {b : Nat} {cs : Array Value} {t : TypeId} (hi : L[i]? = some (blk b cs t)) (k : Nat) (v : Value) : St F w0 (w.setCell ⟨b, k, none⟩ v) (L.set i (blk b (cs.setIfInBounds k v) t)) :=
  h.upd i hi (Mod.setCell (S := fun k => k = b) rfl v) (blk_set (h.get i hi) k v) (fun k hk => .inl hk)
theorem St.new (h : St F w0 w L) (cs : Array Value) (t : TypeId) : St F w0 (w.alloc (.cells cs t)) (L ++ [blk w.heap.size cs t]) :=
  h.add ((Below.refl _ _).alloc (Nat.le_refl _) _) (heap_alloc_new w _) (fun k hk => Nat.le_of_eq hk.symm)
theorem St.new' (h : St F w0 w L) (cs : Array Value) (t : TypeId) (b : Nat) (hb : w.heap.size = b) : St F w0 (w.alloc (.cells cs t)) (L ++ [blk b cs t]) := hb ▸ h.new cs t
theorem St.nils (h : St F w0 w L) {α : Type} (d : Kd α) (e : Nat) : St F w0 w (L ++ [slc d e (.slice none 0 0) []]) :=
  h.add (Below.refl _ _) (slc_nil d e w) (by simp [Value.ownBlock, slcF])
theorem St.cell (h : St F w0 w L) (i : Nat) {b : Nat} {cs : Array Value} {t : TypeId} (hi : L[i]? = some (blk b cs t)) (k : Nat) : w.cell? ⟨b, k, none⟩ = cs[k]? := blk_cell (h.get i hi) k
theorem St.frozen (h : St F w0 w L) (i : Nat) {b : Nat} {cs : Array Value} {t : TypeId} (hi : L[i]? = some (blk b cs t)) (k : Nat) : w.frozen? ⟨b, k, none⟩ = false := blk_frozen (h.get i hi) k
theorem St.blt (h : St F w0 w L) (i : Nat) {b : Nat} {cs : Array Value} {t : TypeId} (hi : L[i]? = some (blk b cs t)) : b < w.heap.size := (blk b cs t).lt (h.get i hi) rfl
/-- A slice grown by append. -/
theorem St.app (h : St F w0 w L) (i : Nat) {α : Type} {d : Kd α} {e : Nat} {v v' : Value} {xs ys : List α} (hi : L[i]? = some (slc d e v xs)) (hE : d.E = []) {ok : Nat → Prop} (hR : d.R e w' 0 ok v' ys) (m : Mod (fun k => v.ownBlock = some k) w w') (ho : ∀ k, v'.ownBlock = some k → v.ownBlock = some k ∨ w.heap.size ≤ k) : St F w0 w' (L.set i (slc d e v' ys)) :=
  h.upd i hi m (slc_of hR hE) ho
/-- Another value in a slice's place, of the same block. -/
theorem St.slice (h : St F w0 w L) (i : Nat) {α : Type} {d : Kd α} {e : Nat} {v : Value} {xs : List α} (hi : L[i]? = some (slc d e v xs)) : ∃ A c, v = .slice A xs.length c ∧ xs.length ≤ c ∧ d.C w A xs.length xs := Kd.R_reads (h.get i hi).1
end
theorem Apart.new {w : World} {a b : Asr} (h : a.holds w) (hb : ∀ k, b.fp k → w.heap.size ≤ k) : Apart a b := fun k hk hk' => by
  have := a.lt h hk; have := hb k hk'; omega
/-- Some more assertions, on new blocks. -/
theorem Sat.adds {w' : World} {L M : List Asr} (h : Sat w' L) (hM : Sat w' M) (hd : ∀ a ∈ L, ∀ b ∈ M, Apart a b) : Sat w' (L ++ M) :=
  ⟨fun a ha => (List.mem_append.1 ha).elim (h.all a) (hM.all a), by
    rw [List.pairwise_append]; exact ⟨h.dis, hM.dis, fun a ha b hb => hd a ha b hb⟩⟩
/-- A method that changes one object, and gives new things. -/
theorem St.method {F : Nat → Prop} {w0 w w' : World} {L M : List Asr} (h : St F w0 w L) (i : Nat) {a a' : Asr} (hi : L[i]? = some a) (m : Mod a.fp w w') (ha : a'.holds w') (hf : ∀ k, a'.fp k → a.fp k ∨ w.heap.size ≤ k) (hM : Sat w' M) (hn : ∀ b ∈ M, ∀ k, b.fp k → w.heap.size ≤ k) (hd : ∀ b ∈ M, Apart a' b) : St F w0 w' (L.set i a' ++ M) := by
  have h1 := h.upd i hi m ha hf
  refine ⟨Sat.adds h1.sat hM fun b hb c hc => ?_, fun b hb k hk hl => ?_, h1.mod⟩
  · rw [set_at hi] at hb
    have e := split_at hi
    rcases List.mem_append.1 hb with hb | hb
    · intro k hk hk'
      have hbL : b ∈ L := by rw [e]; simp [hb]
      have := b.lt (h.sat.all b hbL) hk
      have := hn c hc k hk'
      omega
    · rcases List.mem_cons.1 hb with rfl | hb
      · exact hd c hc
      · intro k hk hk'
        have hbL : b ∈ L := by rw [e]; simp [hb]
        have := b.lt (h.sat.all b hbL) hk
        have := hn c hc k hk'
        omega
  · rcases List.mem_append.1 hb with hb | hb
    · exact h1.inn b hb k hk hl
    · have := hn b hb k hk
      have := h.mod.size
      omega
/-- Blocks of other types lie apart. -/
theorem slc_apart {α β : Type} {d : Kd α} {d' : Kd β} {e e' : Nat} {w : World} {v u : Value} {xs : List α} {ys : List β} (h : (slc d e v xs).holds w) (h' : (slc d' e' u ys).holds w) (he : e ≠ e') : Apart (slc d e v xs) (slc d' e' u ys) := by
  intro k hk hk'
  obtain ⟨c1, h1⟩ := Kd.R_typed h.1 k hk
  obtain ⟨c2, h2⟩ := Kd.R_typed h'.1 k hk'
  rw [h1] at h2
  injection h2 with h2
  injection h2 with _ h3
  exact he h3
/-! ### Assertions behind one, opened and closed -/
def fpsL (L : List Asr) (k : Nat) : Prop := ∃ a ∈ L, a.fp k
theorem Asr.ex_open {ι : Type} {F : Nat → Prop} {L : ι → List Asr} {w : World} (h : (Asr.ex F L).holds w) : ∃ i, St F w w (L i) := by
  obtain ⟨⟨i, hs, he⟩, _⟩ := h
  exact ⟨i, St.start hs he⟩
theorem St.exUpd {F Fp : Nat → Prop} {w0 w w' : World} {A : List Asr} (h : St F w0 w A) (i : Nat) {ι κ : Type} {L0 : ι → List Asr} (hi : A[i]? = some (Asr.ex Fp L0)) {L1 : κ → List Asr} (j : κ) (h' : St Fp w w' (L1 j)) : St F w0 w' (A.set i (Asr.ex (fpsL (L1 j)) L1)) := by
  refine h.upd i hi h'.mod (a' := Asr.ex (fpsL (L1 j)) L1) ⟨⟨j, h'.sat, fun a ha k hk => ⟨a, ha, hk⟩⟩, fun k hk => ?_⟩ fun k hk => ?_
  · obtain ⟨a, ha, hk⟩ := hk
    exact a.lt (h'.sat.all a ha) hk
  · obtain ⟨a, ha, hk⟩ := hk
    rcases Nat.lt_or_ge k w.heap.size with h1 | h1
    · exact .inl (h'.inn a ha k hk h1)
    · exact .inr h1
theorem St.exAdd {F : Nat → Prop} {w0 w w' : World} {A : List Asr} (h : St F w0 w A) {κ : Type} {L1 : κ → List Asr} (j : κ) (h' : St (fun _ => False) w w' (L1 j)) : St F w0 w' (A ++ [Asr.ex (fpsL (L1 j)) L1]) := by
  refine h.add (h'.mod.below (Nat.le_refl _) (by simp)) (a := Asr.ex (fpsL (L1 j)) L1) ⟨⟨j, h'.sat, fun a ha k hk => ⟨a, ha, hk⟩⟩, fun k hk => ?_⟩ fun k hk => ?_
  · obtain ⟨a, ha, hk⟩ := hk
    exact a.lt (h'.sat.all a ha) hk
  · obtain ⟨a, ha, hk⟩ := hk
    rcases Nat.lt_or_ge k w.heap.size with h1 | h1
    · exact (h'.inn a ha k hk h1).elim
    · exact h1
end Go.Tat
/- Maps: entries struck, entries gone over. -/
namespace Go.Tat
open Go.RowKit
theorem map_eraseIdx {α β : Type} (f : α → β) : ∀ (l : List α) (i : Nat), (l.eraseIdx i).map f = (l.map f).eraseIdx i
  | [], _ => rfl
  | x :: l, 0 => rfl
  | x :: l, i + 1 => by simp only [List.eraseIdx_cons_succ, List.map_cons, map_eraseIdx f l i]
section
variable {κ ν : Type} [DecidableEq κ]
theorem mdel_eq : ∀ (L : List (κ × ν)) (x : κ), (L.map (·.1)).Nodup → mdel L x = L.filter fun p => decide (p.1 ≠ x)
  | [], x, _ => rfl
  | p :: L, x, h => by
    rw [List.map_cons, List.nodup_cons] at h
    have ih := mdel_eq L x h.2
    unfold mdel at ih ⊢
    rw [mpos]
    by_cases hx : p.1 = x
    · rw [if_pos hx, List.filter_cons_of_neg (by simp [hx])]
      have : L.filter (fun p => decide (p.1 ≠ x)) = L := List.filter_eq_self.2 fun q hq => by
        have : q.1 ≠ x := fun e => h.1 (List.mem_map.2 ⟨q, hq, e.trans hx.symm⟩)
        simp [this]
      rw [this]; rfl
    · rw [if_neg hx, List.filter_cons_of_pos (by simp [hx])]
      cases hp : mpos L x with
      | none => rw [hp] at ih; exact congrArg (p :: ·) ih
      | some q =>
        rw [hp] at ih
        show (p :: L).eraseIdx (q.1 + 1) = _
        rw [List.eraseIdx_cons_succ]; exact congrArg (p :: ·) ih
theorem mget_some_mem {L : List (κ × ν)} {x : κ} {v : ν} (h : mget L x = some v) : (x, v) ∈ L := by
  unfold mget at h
  obtain ⟨q, hq, rfl⟩ := Option.map_eq_some_iff.1 h
  exact List.mem_of_getElem? (mpos_get L x q hq)
theorem mget_mem {L : List (κ × ν)} (hn : (L.map (·.1)).Nodup) {x : κ} {v : ν} (h : (x, v) ∈ L) : mget L x = some v := by
  induction L with
  | nil => simp at h
  | cons p L ih =>
    rw [List.map_cons, List.nodup_cons] at hn
    rw [mget_cons]
    rcases List.mem_cons.1 h with rfl | h
    · simp
    · have : p.1 ≠ x := fun e => hn.1 (List.mem_map.2 ⟨_, h, e.symm⟩)
      rw [if_neg this]; exact ih hn.2 h
theorem mget_iff {L : List (κ × ν)} (hn : (L.map (·.1)).Nodup) {x : κ} {v : ν} : mget L x = some v ↔ (x, v) ∈ L := ⟨mget_some_mem, mget_mem hn⟩
theorem mget_none {L : List (κ × ν)} {x : κ} : mget L x = none ↔ x ∉ L.map (·.1) := by
  unfold mget
  rw [Option.map_eq_none_iff, mpos_none]
  simp only [List.mem_map, not_exists, not_and]
theorem mdel_nodup {L : List (κ × ν)} {x : κ} (h : (L.map (·.1)).Nodup) : ((mdel L x).map (·.1)).Nodup := by
  rw [mdel_eq L x h]
  exact (List.filter_sublist.map _).nodup h
theorem mget_mdel {L : List (κ × ν)} (h : (L.map (·.1)).Nodup) (x y : κ) : mget (mdel L x) y = if y = x then none else mget L y := by
  have hd := mdel_nodup (x := x) h
  by_cases e : y = x
  · rw [if_pos e, mget_none, mdel_eq L x h]
    intro hy
    obtain ⟨p, hp, hpy⟩ := List.mem_map.1 hy
    have := (List.mem_filter.1 hp).2
    simp at this
    exact this (hpy.trans e)
  · rw [if_neg e]
    apply Option.ext
    intro v
    rw [mget_iff hd, mget_iff h, mdel_eq L x h, List.mem_filter]
    simp [e]
theorem mem_mdel {L : List (κ × ν)} (h : (L.map (·.1)).Nodup) {x : κ} {p : κ × ν} : p ∈ mdel L x ↔ p ∈ L ∧ p.1 ≠ x := by
  rw [mdel_eq L x h, List.mem_filter]; simp
theorem mdel_length {L : List (κ × ν)} {x : κ} : (mdel L x).length = if (mget L x).isSome then L.length - 1 else L.length := by
  unfold mdel mget
  cases hp : mpos L x with
  | none => simp
  | some q =>
    have := (List.getElem?_eq_some_iff.1 (mpos_get L x q hp)).1
    simp [List.length_eraseIdx, this]
/-- An entry struck. -/
theorem wpList_mapDelete {P : Program} {w : World} {ops : Array Oper} {rest : List Oper} {o : Oper} {a : Act} {Q : Exit → Act → World → Prop} (hg : o.guard = none) (t kt et : TypeId) (x y : Operand) (hop : o.op = Op.call { callee := Callee.builtin Builtin.delete, args := #[x, y], argTypes := #[t, kt] })
    (ht : P.underlying t = some (.map kt et)) {ek : κ → Value} (hk : KeyLaw P kt ek) (ev : ν → Value) (b : Nat) (L : List (κ × ν)) (hm : MapAt w b ek ev L) (k : κ)
    (hx : a.eval x = .map (some b)) (hy : a.eval y = ek k)
    (h : ∀ w', MapAt w' b ek ev (mdel L k) → Mod (· = b) w w' → wpList P ops Q rest (a.put o.dst (.tuple #[])) w') : wpList P ops Q (o :: rest) a w := by
  refine wpList_plain hg fun K hK => ?_
  obtain ⟨es, c, hb, hes, hc, hn⟩ := hm.rep
  have hlt := hm.lt
  have hfind := findKey_run hk k es.toList L w hes
  have hlen := size_of_rep hes
  unfold Oper.wp
  cases hp : mpos L k with
  | none =>
    rw [hp] at hfind
    have : (execOp a.eval o).run P w = .ok (.value (.tuple #[])) { w with heap := w.heap.setIfInBounds b (.map es c) } := by
      simp [execOp, hop, hx, hy, resolve, invoke, builtin, Builtin.delete_, run_underlying ht, run_getObj_map' hb, hk.check, hfind, MapKept.run_setObj_map _ hb]
    rw [this]
    refine hK _ _ (h _ ⟨mdel_nodup hm.nd, es, c, by simp [hlt], ?_, hc, hn⟩ ⟨rfl, rfl, rfl, by simp, fun j hj hne => by simp [Array.getElem?_set, Ne.symm hne]⟩)
    simpa [mdel, hp] using hes
  | some q =>
    rw [hp] at hfind
    have hq := mpos_get L k q hp
    have hql : q.1 < es.size := by
      have := (List.getElem?_eq_some_iff.1 hq).1
      omega
    have : (execOp a.eval o).run P w = .ok (.value (.tuple #[])) { w with heap := w.heap.setIfInBounds b (.map (es.eraseIdxIfInBounds q.1) c) } := by
      simp [execOp, hop, hx, hy, resolve, invoke, builtin, Builtin.delete_, run_underlying ht, run_getObj_map' hb, hk.check, hfind, MapKept.run_setObj_map _ hb]
    rw [this]
    have htl : (es.eraseIdxIfInBounds q.1).toList = es.toList.eraseIdx q.1 := by
      simp [Array.eraseIdxIfInBounds, hql]
    refine hK _ _ (h _ ⟨mdel_nodup hm.nd, es.eraseIdxIfInBounds q.1, c, by simp [hlt], ?_, ?_, ?_⟩ ⟨rfl, rfl, rfl, by simp, fun j hj hne => by simp [Array.getElem?_set, Ne.symm hne]⟩)
    · rw [htl]
      simp only [mdel, hp, map_eraseIdx, hes]
    · intro e he
      rw [htl] at he
      exact hc e (List.mem_of_mem_eraseIdx he)
    · rw [htl, map_eraseIdx]
      exact (List.eraseIdx_sublist _ _).nodup hn
end
/-- The number of entries, as an equation (for a 'len' under a guard). -/
theorem MapAt.run_len {κ ν : Type} {P : Program} {w : World} {t kt et r : TypeId} (ht : P.underlying t = some (.map kt et)) {ek : κ → Value} {ev : ν → Value} {b : Nat} {L : List (κ × ν)} (hm : MapAt w b ek ev L) : (Builtin.len_ #[t] r #[.map (some b)]).run P w = .ok (.int .i64 (L.length : Int)) w := by
  obtain ⟨es, c, hb, hes, _⟩ := hm.rep
  simp [Builtin.len_, run_underlying ht, run_getObj_map' hb, size_of_rep hes, goInt]
section
variable {κ ν : Type}
/-- The map at b is gone over by the iterator at r; left: the keys that are still to come. -/
structure Ranging (w : World) (b r : Nat) (ek : κ → Value) (ev : ν → Value) (L : List (κ × ν)) (left : κ → Bool) : Prop where
  nd : (L.map (·.1)).Nodup
  rep : ∃ es clock since seen c0, w.heap[b]? = some (.map es clock) ∧ es.toList.map (fun e => (e.key, e.val)) = L.map (fun p => (ek p.1, ev p.2)) ∧ (∀ e ∈ es.toList, e.born < clock) ∧ (es.toList.map (·.born)).Nodup ∧
    w.heap[r]? = some (.mapIter (some b) since seen c0) ∧ (∀ x ∈ es.toList, x.born < since) ∧ since ≤ c0 ∧ since ≤ clock ∧ ∀ (i : Nat) (e : MapEntry) (p : κ × ν), es.toList[i]? = some e → L[i]? = some p → left p.1 = !seen.contains e.born
section
variable {w w' : World} {b r : Nat} {ek : κ → Value} {ev : ν → Value} {L : List (κ × ν)} {left : κ → Bool}
theorem Ranging.map (h : Ranging w b r ek ev L left) : MapAt w b ek ev L := by
  obtain ⟨es, clock, since, seen, c0, hb, hes, hc, hn, _⟩ := h.rep
  exact ⟨h.nd, es, clock, hb, hes, hc, hn⟩
theorem Ranging.ne (h : Ranging w b r ek ev L left) : r ≠ b := by
  obtain ⟨es, clock, since, seen, c0, hb, _, _, _, hr, _⟩ := h.rep
  intro e
  rw [e, hb] at hr
  cases hr
theorem Ranging.lt (h : Ranging w b r ek ev L left) : b < w.heap.size ∧ r < w.heap.size := by
  obtain ⟨es, clock, since, seen, c0, hb, _, _, _, hr, _⟩ := h.rep
  exact ⟨(Array.getElem?_eq_some_iff.1 hb).1, (Array.getElem?_eq_some_iff.1 hr).1⟩
theorem Ranging.keep (h : Ranging w b r ek ev L left) (hb' : w'.heap[b]? = w.heap[b]?) (hr' : w'.heap[r]? = w.heap[r]?) : Ranging w' b r ek ev L left := by
  obtain ⟨es, clock, since, seen, c0, hb, h1, h2, h3, hr, h4⟩ := h.rep
  exact ⟨h.nd, es, clock, since, seen, c0, hb'.trans hb, h1, h2, h3, hr'.trans hr, h4⟩
end
theorem wpList_range {P : Program} {w : World} {ops : Array Oper} {rest : List Oper} {o : Oper} {a : Act} {Q : Exit → Act → World → Prop} (hg : o.guard = none) (t kt et : TypeId) (m : Operand) (hop : o.op = Op.range t m) (ht : P.underlying t = some (.map kt et)) (ek : κ → Value) (ev : ν → Value) (b : Nat) (L : List (κ × ν))
    (hm : MapAt w b ek ev L) (hx : a.eval m = .map (some b))
    (h : ∀ r w', w.heap.size = r → Ranging w' b r ek ev L (fun _ => true) → Mod (fun _ => False) w w' → w'.heap.size = r + 1 → wpList P ops Q rest (a.put o.dst (.pointer (some ⟨r, 0, none⟩))) w') : wpList P ops Q (o :: rest) a w := by
  refine wpList_plain hg fun K hK => ?_
  obtain ⟨es, c, hb, hes, hc, hn⟩ := hm.rep
  unfold Oper.wp
  have hrun : (Instr.range t (.map (some b))).run P w = .ok (.pointer (some ⟨w.heap.size, 0, none⟩)) (w.alloc (.mapIter (some b) c #[] c)) := by
    simp [Instr.range, run_underlying ht, run_getObj_map' hb]
  have : (execOp a.eval o).run P w = .ok (.value (.pointer (some ⟨w.heap.size, 0, none⟩))) (w.alloc (.mapIter (some b) c #[] c)) := by
    simp [execOp, hop, hx, hrun]
  rw [this]
  refine hK _ _ (h _ _ rfl ⟨hm.nd, es, c, c, #[], c, (Below.heap_alloc _ _ _ hm.lt).trans hb, hes, hc, hn, heap_alloc_new w _, hc, Nat.le_refl _, Nat.le_refl _, fun i e p _ _ => by simp⟩ (Mod.alloc _ _ _) (by simp))
end
section
variable {κ ν : Type} [DecidableEq κ]
/-- How many are still to come. -/
def cntL (L : List (κ × ν)) (left : κ → Bool) : Nat := (L.filter fun p => left p.1).length
theorem cntL_lt {L : List (κ × ν)} {left : κ → Bool} {p : κ × ν} (hp : p ∈ L) (hl : left p.1 = true) : cntL L (fun k => left k && !decide (k = p.1)) < cntL L left := by
  unfold cntL
  have e : (L.filter fun q => left q.1 && !decide (q.1 = p.1)) = (L.filter fun q => left q.1).filter fun q => !decide (q.1 = p.1) := by rw [List.filter_filter]; congr; funext q; rw [Bool.and_comm]
  rw [e]
  refine Nat.lt_of_le_of_ne (List.length_filter_le _ _) fun h => ?_
  have := (List.length_filter_eq_length_iff).1 h p (List.mem_filter.2 ⟨hp, hl⟩)
  simp at this
theorem wpList_next {P : Program} {w : World} {ops : Array Oper} {rest : List Oper} {o : Oper} {a : Act} {Q : Exit → Act → World → Prop} (hg : o.guard = none) (it : Operand) (hop : o.op = Op.next it false) (ek : κ → Value) (ev : ν → Value) (b r : Nat) (L : List (κ × ν)) (left : κ → Bool)
    (hit : a.eval it = .pointer (some ⟨r, 0, none⟩)) (hR : Ranging w b r ek ev L left)
    (hDone : (∀ p ∈ L, left p.1 = false) → wpList P ops Q rest (a.put o.dst (.tuple #[.bool false])) w)
    (hMore : ∀ (p : κ × ν) (w' : World), p ∈ L → left p.1 = true → Ranging w' b r ek ev L (fun k => left k && !decide (k = p.1)) → Mod (· = r) w w' → (Instr.entry (.pointer (some ⟨r, 0, none⟩))).run P w' = .ok (.tuple #[ek p.1, ev p.2]) w' → wpList P ops Q rest (a.put o.dst (.tuple #[.bool true, ek p.1, ev p.2])) w') : wpList P ops Q (o :: rest) a w := by
  refine wpList_plain hg fun K hK => ?_
  have hne := hR.ne
  have hlt := hR.lt
  have hnd := hR.nd
  obtain ⟨es, clock, since, seen, c0, hb, hes, hc, hn, hr, hold, hsc, hsk, hl⟩ := hR.rep
  have hlen := size_of_rep hes
  unfold Oper.wp
  rcases run_next_at (P := P) w o.type r b since c0 seen es clock hr hb hold hsc with ⟨h0, hrun⟩ | ⟨e, he, w1, hw1, hrun⟩
  · have : (execOp a.eval o).run P w = .ok (.value (.tuple #[.bool false])) w := by simp [execOp, hop, hit, hrun]
    rw [this]
    refine hK _ _ (hDone fun p hp => ?_)
    obtain ⟨i, hi⟩ := List.mem_iff_getElem?.1 hp
    have hil : i < es.toList.length := by
      have := (List.getElem?_eq_some_iff.1 hi).1
      simp; omega
    rw [hl i _ p (List.getElem?_eq_getElem hil) hi]
    have hs : (es.filter fun e => !seen.contains e.born) = #[] := Array.eq_empty_of_size_eq_zero h0
    have := Array.filter_eq_empty_iff.1 hs (es.toList[i]) (by rw [← Array.mem_toList_iff]; exact List.getElem_mem hil)
    simpa using this
  · have hmem : e ∈ es.toList ∧ seen.contains e.born = false := by
      unfold leftOf at he
      simpa using he
    obtain ⟨i, hi⟩ := List.mem_iff_getElem?.1 hmem.1
    have hil : i < L.length := by
      have := (List.getElem?_eq_some_iff.1 hi).1
      simp at this; omega
    obtain ⟨p, hp⟩ : ∃ p, L[i]? = some p := ⟨_, List.getElem?_eq_getElem hil⟩
    have hkv : (e.key, e.val) = (ek p.1, ev p.2) := by
      have e1 := congrArg (fun l => l[i]?) hes
      simp only [List.getElem?_map, hi, hp, Option.map_some] at e1
      exact Option.some.inj e1
    injection hkv with hk1 hk2
    have hw1' : w1.heap = w.heap ∧ w1.os = w.os ∧ w1.tape = w.tape ∧ w1.output = w.output := by
      rcases hw1 with rfl | rfl
      · exact ⟨rfl, rfl, rfl, rfl⟩
      · exact ⟨rfl, rfl, rfl, rfl⟩
    have hM : Mod (· = r) w (ChangeMaps.setBlock w1 r (.mapIter (some b) since (seen.push e.born) clock)) := by
      refine ⟨hw1'.2.1, hw1'.2.2.1, hw1'.2.2.2, ?_, fun k hk hkr => ?_⟩
      · simp [ChangeMaps.setBlock, hw1'.1]
      · simp [ChangeMaps.setBlock, hw1'.1, Array.getElem?_set, Ne.symm hkr]
    have hb2 : (ChangeMaps.setBlock w1 r (.mapIter (some b) since (seen.push e.born) clock)).heap[b]? = some (.map es clock) := (hM.block b hlt.1 (Ne.symm hne)).trans hb
    have hr2 : (ChangeMaps.setBlock w1 r (.mapIter (some b) since (seen.push e.born) clock)).heap[r]? = some (.mapIter (some b) since (seen.push e.born) clock) := by
      simp [ChangeMaps.setBlock, hw1'.1, hlt.2]
    have : (execOp a.eval o).run P w = .ok (.value (.tuple #[.bool true, e.key, e.val])) (ChangeMaps.setBlock w1 r (.mapIter (some b) since (seen.push e.born) clock)) := by simp [execOp, hop, hit, hrun]
    rw [this, hk1, hk2]
    refine hK _ _ (hMore p _ (List.mem_of_getElem? hp) (by rw [hl i e p hi hp, hmem.2]; rfl) ⟨hnd, es, clock, since, seen.push e.born, clock, hb2, hes, hc, hn, hr2, hold, hsk, hsk, fun j e' p' hj hp' => ?_⟩ hM (by rw [← hk1, ← hk2]; exact run_entry_at _ r b since seen es clock e hr2 hb2 hmem.1 hn))
    rw [hl j e' p' hj hp', Array.contains_push, Bool.not_or]
    congr 1
    have hji : p'.1 = p.1 ↔ e'.born = e.born := by
      have e1 : (L.map (·.1))[j]? = some p'.1 := by simp [hp']
      have e2 : (L.map (·.1))[i]? = some p.1 := by simp [hp]
      have e3 : (es.toList.map (·.born))[j]? = some e'.born := by simp [hj]
      have e4 : (es.toList.map (·.born))[i]? = some e.born := by simp [hi]
      have l1 := (List.getElem?_eq_some_iff.1 e1).1
      have l3 := (List.getElem?_eq_some_iff.1 e3).1
      constructor
      · intro h
        have : j = i := (List.getElem?_inj l1 hnd).1 (by rw [e1, e2, h])
        subst this
        rw [hi] at hj; cases hj; rfl
      · intro h
        have : j = i := (List.getElem?_inj l3 hn).1 (by rw [e3, e4, h])
        subst this
        rw [hp] at hp'; cases hp'; rfl
    by_cases h : p'.1 = p.1
    · rw [decide_eq_true h]; simp [hji.1 h]
    · rw [decide_eq_false h]
      have : ¬ e'.born = e.born := fun h' => h (hji.2 h')
      simp [this]
end
section
variable {κ ν : Type}
/-- A map that is gone over, as an assertion. -/
def rngA (b r : Nat) (ek : κ → Value) (ev : ν → Value) (L : List (κ × ν)) (left : κ → Bool) : Asr where
  fp k := k = b ∨ k = r
  holds w := Ranging w b r ek ev L left
  lt h hk := by
    rcases hk with rfl | rfl
    · exact h.lt.1
    · exact h.lt.2
  loc h m := h.keep (m b (.inl rfl)) (m r (.inr rfl))
variable {F : Nat → Prop} {w0 w w' : World} {A : List Asr}
theorem St.ranged (h : St F w0 w A) (i : Nat) {b r : Nat} {ek : κ → Value} {ev : ν → Value} {L : List (κ × ν)} {left : κ → Bool} (hi : A[i]? = some (mapA b ek ev L)) (hr : w.heap.size = r) (hR : Ranging w' b r ek ev L left) (m : Mod (fun _ => False) w w') : St F w0 w' (A.set i (rngA b r ek ev L left)) :=
  h.upd i hi (m.mono fun k _ h => h.elim) hR fun k hk => hk.imp id fun e => by omega
theorem St.next (h : St F w0 w A) (i : Nat) {b r : Nat} {ek : κ → Value} {ev : ν → Value} {L : List (κ × ν)} {left left' : κ → Bool} (hi : A[i]? = some (rngA b r ek ev L left)) (hR : Ranging w' b r ek ev L left') (m : Mod (· = r) w w') : St F w0 w' (A.set i (rngA b r ek ev L left')) :=
  h.upd i hi (m.mono fun k _ h => .inr h) hR fun k hk => .inl hk
theorem St.unranged (h : St F w0 w A) (i : Nat) {b r : Nat} {ek : κ → Value} {ev : ν → Value} {L : List (κ × ν)} {left : κ → Bool} (hi : A[i]? = some (rngA b r ek ev L left)) : St F w0 w (A.set i (mapA b ek ev L)) :=
  h.upd i hi (Mod.refl _ _) (h.get i hi).map fun k hk => .inl (.inl hk)
end
end Go.Tat
/- Rows of flat structs: read, written, cut. -/
namespace Go.Tat
open Go.RowKit Go.Proofs.YtecgnfklfgjgaaaW.PrintWords
theorem reps_flat {α : Type} {enc : α → List Value} {s : Nat} (hs : ∀ x, (enc x).length = s) : ∀ (ps : List α) (cs : List Value), Reps (fun p c => c = enc p) s ps cs ↔ cs = ps.flatMap enc
  | [], cs => by
    constructor
    · intro h; have := h.1; simp at this; simpa using this
    · rintro rfl; exact Reps.none _ _
  | p :: ps, cs => by
    constructor
    · intro h
      have hl := h.1
      rw [List.length_cons, Nat.succ_mul] at hl
      have h0 := h.2 0 p rfl
      simp only [Nat.zero_mul, List.drop_zero] at h0
      have ih := (reps_flat hs ps (cs.drop s)).1 ⟨by rw [List.length_drop]; omega, fun j q hq => by
        have := h.2 (j + 1) q (by simpa using hq)
        rw [List.drop_drop]
        rwa [Nat.succ_mul, Nat.add_comm] at this⟩
      rw [List.flatMap_cons, ← h0, ← ih, List.take_append_drop]
    · rintro rfl
      refine ⟨by rw [flat_len hs], fun j q hq => ?_⟩
      have hj := (List.getElem?_eq_some_iff.1 hq).1
      have hm := Nat.mul_le_mul_right s (show j + 1 ≤ (p :: ps).length by omega)
      rw [Nat.succ_mul] at hm
      have hl := flat_len hs (p :: ps)
      apply List.ext_getElem?
      intro c
      rw [List.getElem?_take, List.getElem?_drop]
      split
      · rename_i hc; exact flat_get hs _ _ _ _ hq hc
      · rw [List.getElem?_eq_none (by rw [hs]; omega)]
/-- A kind whose values are their cells. -/
structure Flat {α : Type} (d : Kd α) (enc : α → List Value) : Prop where
  E : d.E = []
  M : ∀ {w base ok x cs}, d.M w base ok x cs ↔ cs = enc x
  K : ∀ {w x cs}, d.K w x cs ↔ cs = enc x
section
variable {α : Type} {d : Kd α} {enc : α → List Value}
theorem Flat.len (h : Flat d enc) (x : α) : (enc x).length = d.sz := d.K_len (w := default) (h.K.2 rfl)
theorem Flat.one (h : Flat d enc) (x : α) : ∀ u ∈ enc x, u.oneCell' = true := d.K_one (w := default) (h.K.2 rfl)
/-- The block b holds these elements, and what stands behind them. -/
structure Row (w : World) (b e : Nat) (enc : α → List Value) (xs : List α) (ex : List Value) : Prop where
  rep : ∃ cur, w.heap[b]? = some (.cells cur e (0, 0)) ∧ cur.toList = xs.flatMap enc ++ ex
theorem slc_iff (F : Flat d enc) {e : Nat} {v : Value} {xs : List α} {w : World} : (slc d e v xs).holds w ↔ (v = .slice none 0 0 ∧ xs = []) ∨ ∃ g cap ex, v = .slice (some ⟨g, 0, none⟩) xs.length cap ∧ Row w g e enc xs ex ∧ xs.length ≤ cap ∧ cap ≤ maxLen ∧ ex.length = (cap - xs.length) * d.sz := by
  have hfl := flat_len F.len xs
  constructor
  · rintro ⟨⟨_, inner, ⟨hl, ho⟩, hr⟩, _⟩
    have hr' : Reps (fun p c => c = enc p) d.sz xs inner := hr.imp_ fun p c hp => F.M.1 hp
    have hi := (reps_flat F.len xs inner).1 hr'
    rcases ho with ⟨hv, hn⟩ | ⟨g, cap, cur, hv, _, hb, hc, hm, hsz, ht⟩
    · exact .inl ⟨hv, List.eq_nil_of_length_eq_zero hn⟩
    · refine .inr ⟨g, cap, cur.toList.drop (xs.length * d.sz), hv, ⟨cur, hb, ?_⟩, hc, hm, ?_⟩
      · rw [← hi, ← ht, List.take_append_drop]
      · rw [List.length_drop, Array.length_toList, hsz, Nat.sub_mul]
  · rintro (⟨rfl, rfl⟩ | ⟨g, cap, ex, rfl, ⟨cur, hb, hcur⟩, hc, hm, hex⟩)
    · exact slc_nil d e w
    · have hm2 := Nat.mul_le_mul_right d.sz hc
      have hsz : cur.size = cap * d.sz := by
        rw [← Array.length_toList, hcur, List.length_append, hfl, hex, Nat.sub_mul]; omega
      refine ⟨⟨fun k hk => hk, xs.flatMap enc, ⟨hfl, .inr ⟨g, cap, cur, rfl, Nat.zero_le _, hb, hc, hm, hsz, by rw [hcur, List.take_left' hfl]⟩⟩, ?_⟩, fun k hk => ?_⟩
      · exact ((reps_flat F.len xs _).2 rfl).imp_ fun p c hp => F.M.2 hp
      · have : g = k := by simpa [Value.ownBlock] using hk
        rw [← this]; exact (Array.getElem?_eq_some_iff.1 hb).1
theorem Row.lt {w : World} {b e : Nat} {xs : List α} {ex : List Value} (h : Row w b e enc xs ex) : b < w.heap.size := by
  obtain ⟨cur, hb, _⟩ := h.rep; exact (Array.getElem?_eq_some_iff.1 hb).1
theorem Row.block {w w' : World} {b e : Nat} {xs : List α} {ex : List Value} (h : Row w b e enc xs ex) (m : w'.heap[b]? = w.heap[b]?) : Row w' b e enc xs ex := by
  obtain ⟨cur, hb, hc⟩ := h.rep; exact ⟨cur, m.trans hb, hc⟩
theorem Row.blk {w : World} {b e : Nat} {xs : List α} {ex : List Value} (h : Row w b e enc xs ex) : Blk w b (rows enc xs ex) := by
  obtain ⟨cur, hb, hc⟩ := h.rep
  have := Blk.of_heap hb
  have e : (fun j => cur[j]?) = rows enc xs ex := by funext j; unfold rows; rw [← hc, Array.getElem?_toList]
  rwa [e] at this
theorem Row.cell {w : World} {b e s : Nat} {xs : List α} {ex : List Value} (h : Row w b e enc xs ex) (hs : ∀ x, (enc x).length = s) {i c : Nat} {x : α} (hi : xs[i]? = some x) (hc : c < s) : w.cell? ⟨b, i * s + c, none⟩ = (enc x)[c]? :=
  (h.blk.cell _).trans (rows_get hs hi hc)
theorem Row.fz {w : World} {b e : Nat} {xs : List α} {ex : List Value} (h : Row w b e enc xs ex) (j : Nat) : w.frozen? ⟨b, j, none⟩ = false := h.blk.fz j
end
/-! ### Cells stored one behind the other -/
theorem run_storeCells_at {P : Program} (b k e : Nat) : ∀ (vs : List Value) (i : Nat) (cur : Array Value) (w : World), w.heap[b]? = some (.cells cur e (0, 0)) → k + i + vs.length ≤ cur.size → (∀ v ∈ vs, v.oneCell' = true) →
    ∃ w' cur', (storeCells ⟨b, k, none⟩ vs i).run P w = .ok () w' ∧ w'.heap[b]? = some (.cells cur' e (0, 0)) ∧ cur'.toList = cur.toList.take (k + i) ++ vs ++ cur.toList.drop (k + i + vs.length) ∧ Mod (· = b) w w' ∧ w'.heap.size = w.heap.size
  | [], i, cur, w, hb, _, _ => ⟨w, cur, by simp [storeCells], hb, by simp, Mod.refl _ _, rfl⟩
  | v :: vs, i, cur, w, hb, hl, h1 => by
    have hl' : k + i + (vs.length + 1) ≤ cur.size := by simpa using hl
    have hadd : (⟨b, k, none⟩ : Addr).add i = ⟨b, k + i, none⟩ := by unfold Addr.add; split <;> simp_all
    have hc : w.cell? ⟨b, k + i, none⟩ = some (cur[k + i]'(by omega)) := by rw [blk_cell hb]; exact Array.getElem?_eq_getElem _
    have hst : (store ((⟨b, k, none⟩ : Addr).add i) v).run P w = .ok () (w.setCell ⟨b, k + i, none⟩ v) := by
      rw [hadd, run_store P w _ v _ (h1 v (by simp)), hc]; simp [blk_frozen hb]
    obtain ⟨w', cur', hr, hB, hC, hM, hz⟩ := run_storeCells_at (P := P) b k e vs (i + 1) (cur.setIfInBounds (k + i) v) (w.setCell ⟨b, k + i, none⟩ v) (blk_set hb _ v) (by simp; omega) (fun x hx => h1 x (by simp [hx]))
    refine ⟨w', cur', ?_, hB, ?_, (Mod.setCell (S := (· = b)) rfl v).trans hM, by rw [hz]; simp⟩
    · simp only [storeCells, Sem.run_bind, hst, Result.andThen_ok, hr]
    · rw [hC]
      have hlt : k + i < cur.toList.length := by rw [Array.length_toList]; omega
      rw [Array.toList_setIfInBounds, show k + (i + 1) = (k + i) + 1 by omega, List.take_succ_eq_append_getElem (by simp; omega), List.getElem_set_self, List.take_set_of_le (Nat.le_refl _), List.drop_set_of_lt (by omega)]
      simp only [List.append_assoc, List.singleton_append, List.length_cons, List.cons_append, List.nil_append]
      rw [show k + i + 1 + vs.length = k + i + (vs.length + 1) by omega]
theorem wpList_store_at {P : Program} {w : World} {ops : Array Oper} {rest : List Oper} {o : Oper} {a : Act} {Q : Exit → Act → World → Prop} (hg : o.guard = none) (t : TypeId) (x y : Operand) (hop : o.op = .store t x y)
    (b k e : Nat) (cur : Array Value) (v : Value) (vs : List Value) (hx : a.eval x = .pointer (some ⟨b, k, none⟩)) (hy : a.eval y = v) (hv : v.cells.toList = vs) (hsz : (P.info? t).map (·.size) = some vs.length) (hb : w.heap[b]? = some (.cells cur e (0, 0)))
    (hk : k + vs.length ≤ cur.size) (h1 : ∀ v ∈ vs, v.oneCell' = true)
    (h : ∀ w' cur', w'.heap[b]? = some (.cells cur' e (0, 0)) → cur'.toList = cur.toList.take k ++ vs ++ cur.toList.drop (k + vs.length) → Mod (· = b) w w' → w'.heap.size = w.heap.size → wpList P ops Q rest (a.put o.dst undef) w') : wpList P ops Q (o :: rest) a w := by
  refine wpList_plain hg fun K hK => ?_
  obtain ⟨w', cur', hr, hB, hC, hM, hz⟩ := run_storeCells_at (P := P) b k e vs 0 cur w hb (by simpa using hk) h1
  obtain ⟨i, hi, hi2⟩ := Option.map_eq_some_iff.1 hsz
  have hsize : v.cells.size = i.size := by rw [hi2, ← hv]; simp
  unfold Oper.wp
  have : (execOp a.eval o).run P w = .ok .skip w' := by
    simp [execOp, hop, hx, hy, Instr.storeAt, Instr.sureAddr, storeVar, sizeOf, typeInfo, hi, hsize, hv, hr]
  rw [this]
  exact hK _ _ (h w' cur' hB (by simpa using hC) hM hz)
theorem run_loadVar_at {P : Program} (w : World) (b k : Nat) (t : TypeId) (d : TypeDesc) (vs : List Value) (hc : ∀ j v, vs[j]? = some v → w.cell? ⟨b, k + j, none⟩ = some v) (hu : P.underlying t = some d) (hd : (match d with | .struct _ | .array _ _ => true | _ => false) = true) (hi : (P.info? t).map (·.size) = some vs.length) :
    (loadVar t ⟨b, k, none⟩).run P w = .ok (.agg vs.toArray) w := by
  have hl : (loadCells ⟨b, k, none⟩ vs.length).run P w = .ok vs.toArray w :=
    run_loadCells_list (P := P) w ⟨b, k, none⟩ vs (fun j v hv => by
      have hadd : (⟨b, k, none⟩ : Addr).add j = ⟨b, k + j, none⟩ := by unfold Addr.add; split <;> simp_all
      rw [hadd]; exact hc j v hv)
  obtain ⟨i, hq, hs⟩ := Option.map_eq_some_iff.1 hi
  have hagg : (isAgg t).run P w = .ok true w := by
    unfold isAgg
    rw [Sem.run_bind, run_underlying hu w]
    cases d <;> simp_all
  simp [loadVar, Sem.run_bind, hagg, sizeOf, typeInfo, hq, hs, hl]
theorem wpList_load_at {P : Program} {w : World} {ops : Array Oper} {rest : List Oper} {o : Oper} {a : Act} {Q : Exit → Act → World → Prop} (hg : o.guard = none) (t : TypeId) (x : Operand) (hop : o.op = .load t x)
    (b k : Nat) (d : TypeDesc) (vs : List Value) (hx : a.eval x = .pointer (some ⟨b, k, none⟩)) (hc : ∀ j v, vs[j]? = some v → w.cell? ⟨b, k + j, none⟩ = some v) (hu : P.underlying t = some d) (hd : (match d with | .struct _ | .array _ _ => true | _ => false) = true) (hi : (P.info? t).map (·.size) = some vs.length)
    (h : wpList P ops Q rest (a.put o.dst (.agg vs.toArray)) w) : wpList P ops Q (o :: rest) a w := by
  refine wpList_plain hg fun K hK => ?_
  unfold Oper.wp execOp
  simp only [hop, hx, Instr.loadAt, Instr.sureAddr, Sem.run_bind, Sem.run_pure, Result.andThen_ok, run_loadVar_at w b k t d vs hc hu hd hi]
  exact hK _ _ h
section
variable {α : Type} {d : Kd α} {enc : α → List Value}
theorem flat_set {s : Nat} (hs : ∀ x, (enc x).length = s) : ∀ (xs : List α) (i : Nat) (y : α), i < xs.length → (xs.set i y).flatMap enc = (xs.flatMap enc).take (i * s) ++ enc y ++ (xs.flatMap enc).drop (i * s + s)
  | [], i, y, h => absurd h (Nat.not_lt_zero _)
  | x :: xs, 0, y, _ => by simp [← hs x]
  | x :: xs, i + 1, y, h => by
    have e1 := List.take_append (l₁ := enc x) (l₂ := xs.flatMap enc) (i := (i + 1) * s)
    have e2 := List.drop_append (l₁ := enc x) (l₂ := xs.flatMap enc) (i := (i + 1) * s + s)
    simp only [List.set_cons_succ, List.flatMap_cons]
    rw [flat_set hs xs i y (by simpa using h), e1, e2, hs, List.take_of_length_le (l := enc x) (by rw [hs, Nat.succ_mul]; omega), show List.drop ((i + 1) * s + s) (enc x) = [] from List.drop_eq_nil_of_le (by rw [hs, Nat.succ_mul]; omega), show (i + 1) * s - s = i * s by rw [Nat.succ_mul]; omega, show (i + 1) * s + s - s = i * s + s by rw [Nat.succ_mul]; omega]
    simp [List.append_assoc]
/-- An element is stored. -/
theorem wpList_store_row_at {P : Program} {w : World} {ops : Array Oper} {rest : List Oper} {o : Oper} {a : Act} {Q : Exit → Act → World → Prop} (F : Flat d enc) (hg : o.guard = none) (t : TypeId) (x y : Operand) (hop : o.op = .store t x y)
    (b e i : Nat) (xs : List α) (u : α) (ex : List Value) (hx : a.eval x = .pointer (some ⟨b, i * d.sz, none⟩)) (hy : a.eval y = .agg (enc u).toArray) (hsz : (P.info? t).map (·.size) = some d.sz) (hR : Row w b e enc xs ex) (hi : i < xs.length)
    (h : ∀ w', Row w' b e enc (xs.set i u) ex → Mod (· = b) w w' → w'.heap.size = w.heap.size → wpList P ops Q rest (a.put o.dst undef) w') : wpList P ops Q (o :: rest) a w := by
  obtain ⟨cur, hb, hc⟩ := hR.rep
  have hl := F.len u
  have hfl := flat_len F.len xs
  have hm := Nat.mul_le_mul_right d.sz (show i + 1 ≤ xs.length from hi)
  rw [Nat.succ_mul] at hm
  have hcl : cur.size = (xs.flatMap enc).length + ex.length := by rw [← Array.length_toList, hc, List.length_append]
  refine wpList_store_at hg t x y hop b (i * d.sz) e cur _ (enc u) hx hy (by simp [Value.cells]) (by rw [hl]; exact hsz) hb (by omega) (F.one u) fun w' cur' h1 h2 h3 h4 => h w' ⟨cur', h1, ?_⟩ h3 h4
  rw [h2, hc, flat_set F.len xs i u hi, hl, List.take_append_of_le_length (by omega), List.drop_append_of_le_length (by omega)]
  simp [List.append_assoc]
/-- An element is loaded. -/
theorem wpList_load_row_at {P : Program} {w : World} {ops : Array Oper} {rest : List Oper} {o : Oper} {a : Act} {Q : Exit → Act → World → Prop} (F : Flat d enc) (hg : o.guard = none) (t : TypeId) (x : Operand) (hop : o.op = .load t x)
    (b e i : Nat) (xs : List α) (u : α) (ex : List Value) (td : TypeDesc) (hx : a.eval x = .pointer (some ⟨b, i * d.sz, none⟩)) (hu : P.underlying t = some td) (hd : (match td with | .struct _ | .array _ _ => true | _ => false) = true) (hsz : (P.info? t).map (·.size) = some d.sz) (hR : Row w b e enc xs ex) (hi : xs[i]? = some u)
    (h : wpList P ops Q rest (a.put o.dst (.agg (enc u).toArray)) w) : wpList P ops Q (o :: rest) a w :=
  wpList_load_at hg t x hop b (i * d.sz) td (enc u) hx (fun j v hj => (hR.cell F.len hi (by rw [← F.len u]; exact (List.getElem?_eq_some_iff.1 hj).1)).trans hj) hu hd (by rw [F.len]; exact hsz) h
/-- A variable of the call's own gets its value. -/
theorem wpList_store_new {P : Program} {w : World} {ops : Array Oper} {rest : List Oper} {o : Oper} {a : Act} {Q : Exit → Act → World → Prop} (F : Flat d enc) (hg : o.guard = none) (t : TypeId) (x y : Operand) (hop : o.op = .store t x y)
    (b e : Nat) (cur : Array Value) (u : α) (hx : a.eval x = .pointer (some ⟨b, 0, none⟩)) (hy : a.eval y = .agg (enc u).toArray) (hsz : (P.info? t).map (·.size) = some d.sz) (hb : w.heap[b]? = some (.cells cur e (0, 0))) (hc : cur.size = d.sz)
    (h : ∀ w', Row w' b e enc [u] [] → Mod (· = b) w w' → w'.heap.size = w.heap.size → wpList P ops Q rest (a.put o.dst undef) w') : wpList P ops Q (o :: rest) a w := by
  have hl := F.len u
  refine wpList_store_at hg t x y hop b 0 e cur _ (enc u) hx hy (by simp [Value.cells]) (by rw [hl]; exact hsz) hb (by omega) (F.one u) fun w' cur' h1 h2 h3 h4 => h w' ⟨cur', h1, ?_⟩ h3 h4
  rw [h2, List.drop_eq_nil_of_le (by rw [Array.length_toList]; omega)]
  simp
/-- What stands behind is cleared: the first ones stay. -/
theorem run_clear_row {P : Program} {w : World} (F : Flat d enc) (t e ty : TypeId) (z : Value) (ht : P.underlying t = some (.slice e)) (hz : (P.info? e).map (·.zero) = some (some z)) (hzs : z.cells.size = d.sz) (hz1 : ∀ v ∈ z.cells.toList, v.oneCell' = true)
    (b i n c : Nat) (xs : List α) (ex : List Value) (hR : Row w b e enc xs ex) (hin : i + n ≤ xs.length) :
    ∃ w' ex', (Builtin.clear_ #[t] ty #[.slice (some ⟨b, i * d.sz, none⟩) n c]).run P w = .ok (.tuple #[]) w' ∧ Row w' b e enc (xs.take i) ex' ∧ ex'.length = ex.length + (xs.length - i) * d.sz ∧ Mod (· = b) w w' ∧ w'.heap.size = w.heap.size := by
  obtain ⟨cur, hb, hc⟩ := hR.rep
  have hfl := flat_len F.len xs
  have hfl2 := flat_len F.len (xs.take i)
  have hsplit : xs.flatMap enc = (xs.take i).flatMap enc ++ (xs.drop i).flatMap enc := by rw [← List.flatMap_append, List.take_append_drop]
  have hti : (xs.take i).length = i := by simp; omega
  rw [hti] at hfl2
  have hzl : ∀ m, (Builtin.zeroCells z.cells m).toList.length = m * d.sz ∧ ∀ v ∈ (Builtin.zeroCells z.cells m).toList, v.oneCell' = true := by
    intro m
    constructor
    · simp [Builtin.zeroCells, hzs]
    · intro v hv
      simp only [Builtin.zeroCells, Array.toList_map, List.mem_map] at hv
      obtain ⟨j, hj, rfl⟩ := hv
      have hj' : j < m * z.cells.size := by simpa using hj
      have hp : 0 < z.cells.size := Nat.pos_of_ne_zero fun e => by rw [e] at hj'; omega
      have hq := Nat.mod_lt j hp
      have e : z.cells[j % z.cells.size]! = z.cells[j % z.cells.size]'hq := by simp [hq]
      rw [e]
      exact hz1 _ (by rw [Array.mem_toList_iff]; exact Array.getElem_mem hq)
  obtain ⟨iz, hiz, hiz2⟩ := Option.map_eq_some_iff.1 hz
  have hm := Nat.mul_le_mul_right d.sz hin
  have hm2 := Nat.mul_le_mul_right d.sz (show i ≤ xs.length by omega)
  have hcl : cur.toList.length = xs.length * d.sz + ex.length := by rw [hc, List.length_append, hfl]
  have hsm := Nat.sub_mul xs.length i d.sz
  rw [Nat.add_mul] at hm
  obtain ⟨w', cur', hr, hB, hC, hM, hs⟩ := run_storeCells_at (P := P) b (i * d.sz) e (Builtin.zeroCells z.cells n).toList 0 cur w hb (by rw [(hzl n).1, ← Array.length_toList]; omega) (hzl n).2
  refine ⟨w', (Builtin.zeroCells z.cells n).toList ++ cur.toList.drop (i * d.sz + 0 + (Builtin.zeroCells z.cells n).toList.length), ?_, ⟨cur', hB, ?_⟩, ?_, hM, hs⟩
  · cases n with
    | zero =>
      have e0 : (Builtin.zeroCells z.cells 0).toList = [] := List.eq_nil_of_length_eq_zero (by rw [(hzl 0).1]; omega)
      rw [e0] at hr
      simp [storeCells] at hr
      simp [Builtin.clear_, run_underlying ht, hr]
    | succ n => 
      have hr' := hr
      simp [Builtin.clear_, run_underlying ht, zeroValue, typeInfo, hiz, hiz2, hr]
  · rw [hC, hc, Nat.add_zero, hsplit, List.append_assoc (List.flatMap enc (List.take i xs)), List.take_left' hfl2, List.append_assoc]
  · rw [List.length_append, List.length_drop, (hzl n).1, hcl]; omega
end
theorem flInt (k : IntKind) : Flat (Kd.int k) (fun n => [Value.int k n]) := ⟨rfl, Iff.rfl, Iff.rfl⟩
/-- A literal's slice. -/
theorem lit_slc {α : Type} {d : Kd α} {enc : α → List Value} (F : Flat d enc) {e g : Nat} {cs : Array Value} {w : World} {xs : List α} (h : (blk g cs e).holds w) (hc : cs.toList = xs.flatMap enc) (hm : xs.length ≤ maxLen) : (slc d e (.slice (some ⟨g, 0, none⟩) xs.length xs.length) xs).holds w :=
  (slc_iff F).2 (.inr ⟨g, xs.length, [], rfl, ⟨cs, h, by rw [hc, List.append_nil]⟩, Nat.le_refl _, hm, by simp⟩)
theorem slc_form {α : Type} {d : Kd α} {e : Nat} {v : Value} {w : World} {xs : List α} (h : (slc d e v xs).holds w) (hp : 0 < xs.length) : ∃ g c, v = .slice (some ⟨g, 0, none⟩) xs.length c ∧ g < w.heap.size ∧ xs.length ≤ c := by
  obtain ⟨g, c, rfl, _, hl, _⟩ := Kd.R_form h.1 hp
  obtain ⟨_, hc, _⟩ := Kd.R_reads' h.1
  exact ⟨g, c, rfl, hl, hc⟩
theorem slc_int {k : IntKind} {e g n c : Nat} {xs : List Int} {w : World} (h : (slc (Kd.int k) e (.slice (some ⟨g, 0, none⟩) n c) xs).holds w) {i : Nat} {x : Int} (hi : xs[i]? = some x) : w.cell? ⟨g, i, none⟩ = some (.int k x) := by
  obtain ⟨hl, rfl⟩ := List.getElem?_eq_some_iff.1 hi
  rcases (slc_iff (flInt k)).1 h with ⟨hv, _⟩ | ⟨g', cap, ex, hv, hR, _⟩
  · injection hv with h1; cases h1
  · injection hv with h1
    injection h1 with h1
    injection h1 with h1
    subst h1
    have := hR.cell (s := 1) (i := i) (c := 0) (fun x => rfl) (List.getElem?_eq_getElem hl) (by decide)
    simpa using this
theorem add_block (a : Addr) (m : Nat) : (a.add m).block = a.block := by unfold Addr.add; split <;> rfl
/-- An element of an argument: where its cells lie. -/
theorem C_at {α : Type} {d : Kd α} {w : World} {A : Option Addr} {xs : List α} (h : d.C w A xs.length xs) {j : Nat} {x : α} (hx : xs[j]? = some x) (hs : 0 < d.sz) :
    ∃ ad b o cs, A = some ad ∧ ad.add (j * d.sz) = ⟨b, o, none⟩ ∧ b < w.heap.size ∧ d.K w x cs ∧ ∀ i u, cs[i]? = some u → w.cell? ⟨b, o + i, none⟩ = some u := by
  have hj := (List.getElem?_eq_some_iff.1 hx).1
  obtain ⟨ad, c, e, hcl, hK, hc⟩ := Kd.C_get h x (j : Int) (by omega) (by omega)
  have hx' : xs.getD (j : Int).toNat x = x := by rw [Int.toNat_natCast]; simp [List.getD, hx]
  rw [hx'] at hK
  rw [Int.toNat_natCast] at hc
  have hlen := d.K_len hK
  have h0 := hc 0 c[0] (List.getElem?_eq_getElem (by omega))
  rw [Nat.add_zero] at h0
  obtain ⟨b, o, had⟩ : ∃ b o, ad.add (j * d.sz) = ⟨b, o, none⟩ := by
    generalize ad.add (j * d.sz) = q at h0
    obtain ⟨b, o, s⟩ := q
    cases s with
    | none => exact ⟨b, o, rfl⟩
    | some s => unfold World.cell? at h0; dsimp only at h0; split at h0 <;> simp at h0
  have hb := World.block_lt_of_cell? w _ h0
  rw [had] at hb
  refine ⟨ad, b, o, c, e, had, hb, hK, fun i u hu => ?_⟩
  rcases Nat.eq_zero_or_pos i with rfl | hi
  · have := hc 0 u hu
    rwa [Nat.add_zero, had] at this
  · have := hc i u hu
    rwa [add_field _ _ i hi, had] at this
theorem C_block {α : Type} {d : Kd α} {w : World} {ad : Addr} {xs : List α} (h : d.C w (some ad) xs.length xs) (hp : 0 < xs.length) (hs : 0 < d.sz) : ad.block < w.heap.size := by
  obtain ⟨ad', b, o, cs, e, ha, hb, _⟩ := C_at h (List.getElem?_eq_getElem hp) hs
  cases e
  have := add_block ad (0 * d.sz)
  rw [ha] at this
  rw [← this]; exact hb
theorem St.ge {w0 w : World} {L : List Asr} (h : St (fun _ => False) w0 w L) (i : Nat) {a : Asr} (hi : L[i]? = some a) {k : Nat} (hk : a.fp k) : w0.heap.size ≤ k := by
  rcases Nat.lt_or_ge k w0.heap.size with h1 | h1
  · exact (h.inn a (List.mem_of_getElem? hi) k hk h1).elim
  · exact h1
theorem St.base {w0 w : World} {L : List Asr} (h : St (fun _ => False) w0 w L) : Below w0.heap.size w0 w := h.mod.below (Nat.le_refl _) (by simp)
end Go.Tat
/- slices.SortFunc at a struct: from the shelf's words to rows. -/
namespace Go.Tat
open Go.RowKit Go.Proofs.YtecgnfklfgjgaaaW.PrintWords
section
variable {α : Type} [Inhabited α] {d : Kd α} {enc : α → List Value}
theorem flatK_toList (F : Flat d enc) (D : Array α) : (Sort.flatK enc d.sz D).toList = D.toList.flatMap enc := by
  have hfl := flat_len F.len D.toList
  apply List.ext_getElem?
  intro t
  by_cases ht : t < D.size * d.sz
  · have hp : 0 < d.sz := Nat.pos_of_ne_zero fun e => by rw [e] at ht; omega
    have hq : t / d.sz < D.size := Nat.div_lt_of_lt_mul (by rw [Nat.mul_comm]; exact ht)
    have hr := Nat.mod_lt t hp
    have hd : (t / d.sz) * d.sz + t % d.sz = t := by rw [Nat.mul_comm]; exact Nat.div_add_mod t d.sz
    have h1 := flat_get F.len D.toList (t / d.sz) (t % d.sz) (D[t / d.sz]) (by simp [hq]) hr
    rw [hd] at h1
    rw [h1, List.getElem?_eq_getElem (by rw [Array.length_toList, Sort.size_flatK]; exact ht)]
    have h2 := Sort.get_flatK enc d.sz D t ht
    rw [getElem!_pos _ t (by rw [Sort.size_flatK]; exact ht), getElem!_pos D (t / d.sz) hq] at h2
    have hl : t % d.sz < (enc D[t / d.sz]).length := by rw [F.len]; exact hr
    rw [getElem!_pos (enc D[t / d.sz]) (t % d.sz) hl] at h2
    rw [List.getElem?_eq_getElem hl, Array.getElem_toList, h2]
  · rw [List.getElem?_eq_none (by rw [Array.length_toList, Sort.size_flatK]; omega), List.getElem?_eq_none (by rw [hfl, Array.length_toList]; omega)]
theorem Row.holds (F : Flat d enc) {w : World} {b e : Nat} {xs : List α} {ex : List Value} (h : Row w b e enc xs ex) : Sort.HoldsK enc d.sz w b 0 xs.toArray := by
  obtain ⟨cur, hb, hc⟩ := h.rep
  intro j hj
  have hfl := flat_len F.len xs
  rw [Sort.size_flatK] at hj
  have hj' : j < xs.length * d.sz := by simpa using hj
  refine ⟨?_, by rw [Nat.zero_add]; exact blk_frozen hb j⟩
  rw [Nat.zero_add, blk_cell hb, ← Array.getElem?_toList, hc, List.getElem?_append_left (by omega), getElem!_pos _ j (by rw [Sort.size_flatK]; exact hj)]
  have h1 := flatK_toList F xs.toArray
  have h2 : (Sort.flatK enc d.sz xs.toArray).toList[j]? = (xs.flatMap enc)[j]? := by rw [h1]
  rw [← h2, Array.getElem?_toList, Array.getElem?_eq_getElem (by rw [Sort.size_flatK]; exact hj)]
  rfl
/-- What a sort leaves. -/
theorem sort_row (F : Flat d enc) {w : World} {b e : Nat} {xs : List α} {ex : List Value} (h : Row w b e enc xs ex) (n : Nat) (os : Array Obj) (D : Array α) (hD : D.size = xs.length) :
    Row (Go.Proofs.sortWorldK enc d.sz w b 0 n D os) b e enc D.toList ex ∧ Mod (· = b) w (Go.Proofs.sortWorldK enc d.sz w b 0 n D os) := by
  have hlt := h.lt
  obtain ⟨cur, hb, hc⟩ := h.rep
  have hfl := flat_len F.len xs
  have hcs : (Sort.flatK enc d.sz D).size ≤ cur.size := by
    rw [Sort.size_flatK, hD, ← Array.length_toList, hc, List.length_append, hfl]; omega
  have hheap : (Go.Proofs.sortWorldK enc d.sz w b 0 n D os).heap = (w.heap.modify b (Sort.onCells (Sort.putCells id 0 (Sort.flatK enc d.sz D)))) ++ os := rfl
  have hput : (Sort.putCells id 0 (Sort.flatK enc d.sz D) cur).toList = D.toList.flatMap enc ++ ex := by
    rw [← flatK_toList F D]
    have hex : ex = cur.toList.drop (Sort.flatK enc d.sz D).size := by
      rw [hc, Sort.size_flatK, hD, List.drop_left' hfl]
    rw [hex]
    apply List.ext_getElem?
    intro t
    unfold Sort.putCells
    rw [Array.getElem?_toList, Array.getElem?_mapIdx]
    by_cases ht : t < (Sort.flatK enc d.sz D).size
    · rw [List.getElem?_append_left (by simpa using ht), Array.getElem?_eq_getElem (by omega), Array.getElem?_toList, Array.getElem?_eq_getElem ht]
      simp only [Option.map_some]
      rw [if_pos ⟨Nat.zero_le _, by omega⟩, Nat.sub_zero, getElem!_pos _ t ht]
      rfl
    · rw [List.getElem?_append_right (by simpa using Nat.le_of_not_lt ht), List.getElem?_drop, Array.length_toList, show (Sort.flatK enc d.sz D).size + (t - (Sort.flatK enc d.sz D).size) = t by omega, Array.getElem?_toList]
      cases cur[t]? with
      | none => rfl
      | some v => simp only [Option.map_some]; rw [if_neg (by omega)]
  refine ⟨⟨Sort.putCells id 0 (Sort.flatK enc d.sz D) cur, ?_, hput⟩, ⟨rfl, rfl, rfl, ?_, fun k hk hkb => ?_⟩⟩
  · rw [hheap, Array.getElem?_append_left (by simpa using hlt), Array.getElem?_modify, if_pos rfl, hb]
    rfl
  · rw [hheap]; simp
  · rw [hheap, Array.getElem?_append_left (by simpa using hk), Array.getElem?_modify, if_neg (fun e => hkb e.symm)]
theorem perm_of_in {D D' : Array α} (h : Sort.PermIn 0 D.size D D') : D'.size = D.size ∧ D'.toList.Perm D.toList := by
  obtain ⟨h1, _, h3⟩ := h
  refine ⟨h1, ?_⟩
  have e1 : D.extract 0 D.size = D := by simp
  have e2 : D'.extract 0 D.size = D' := by rw [← h1]; simp
  rw [e1, e2] at h3
  exact h3
theorem sorted_of_in {lt : α → α → Bool} {D : Array α} {n : Nat} (hn : n = D.size) (h : Sort.SortedIn lt 0 n D) : D.toList.Pairwise (fun x y => lt y x = false) := by
  subst hn
  rw [List.pairwise_iff_getElem]
  intro i j hi hj hij
  have := h i j (Nat.zero_le _) hij (by simpa using hj)
  rw [getElem!_pos D i (by simpa using hi), getElem!_pos D j (by simpa using hj)] at this
  simpa using this
end
end Go.Tat
/- append of one element. -/
namespace Go.Tat
open Go.RowKit Go.Proofs.YtecgnfklfgjgaaaW.PrintWords
/-- append of one element. -/
theorem wpList_app1 {P : Program} {ops : Array Oper} {rest : List Oper} {o : Oper} {a : Act} {Q : Exit → Act → World → Prop} {α : Type} (d : Kd α) {W : World} (hgd : o.guard = none) (s x : Operand) (t e : TypeId) (z : Value) (bytes : Nat)
    (ho : o.op = .call { callee := .builtin .append, args := #[s, x], argTypes := #[t, t] })
    (ht : P.underlying t = some (.slice e)) (hinfo : (P.info? e).map (fun i => (i.zero, i.size, i.bytes)) = some (some z, d.sz, bytes)) (hz : z.cells.size = d.sz) (hs0 : 0 < d.sz) (hb0 : 0 < bytes)
    (v : Value) (xs : List α) (p : α) (cs : List Value) (ok : Nat → Prop) (hs : a.eval s = v) (hx : a.eval x = .slice (some ⟨W.heap.size, 0, none⟩) 1 1) (hp : d.M W 0 (fun _ => False) p cs)
    (HO : d.R e W 0 ok v xs) (hl : (xs.length + 1) * bytes ≤ 140737488355328)
    (h : ∀ A c w1, d.R e w1 0 (fun k => ok k ∨ W.heap.size ≤ k) (.slice A (xs ++ [p]).length c) (xs ++ [p]) → Mod (fun k => v.ownBlock = some k) W w1 → (∀ k, (Value.slice A (xs ++ [p]).length c).ownBlock = some k → v.ownBlock = some k ∨ W.heap.size ≤ k) → wpList P ops Q rest (a.put o.dst (.slice A (xs ++ [p]).length c)) w1) :
    wpList P ops Q (o :: rest) a (W.alloc (.cells cs.toArray e)) := by
  refine Kd.R_append d 0 hgd s x t e z bytes ho ht hinfo hz hs0 hb0 v xs p cs (fun k => ok k ∨ W.heap.size ≤ k) (fun _ => False) hs hx hp (fun k hk => hk.elim) (fun k hk => .inr hk) (Kd.R_mono HO fun k hk => .inl hk) ⟨rfl, rfl, rfl, Nat.le_refl _, fun k hk => absurd hk (Nat.not_lt_zero _)⟩ (Nat.zero_le _) hl ?_
  · intro v1 w1 hR _ hg hat
    obtain ⟨A, c, rfl⟩ := Kd.R_slice hR
    refine h A c w1 hR (Mod.of_grown hg fun k _ hk => hk) fun k hk => ?_
    rcases hat with e | ⟨b, e, hb⟩
    · exact .inl (e ▸ hk)
    · rw [e] at hk; cases hk; exact .inr hb
/-- append of one element, in a region that draws. -/
theorem step_app1 {P : Program} {ops : Array Oper} {o : Oper} {a : Act} {Q : Exit → Act → World → Prop} {Kc : Act → World → Prop} {α : Type} (d : Kd α) {W : World} (hw : Region.wanted o (yielded ops a.tmps) = true) (s x : Operand) (t e : TypeId) (z : Value) (bytes : Nat)
    (ho : o.op = .call { callee := .builtin .append, args := #[s, x], argTypes := #[t, t] })
    (ht : P.underlying t = some (.slice e)) (hinfo : (P.info? e).map (fun i => (i.zero, i.size, i.bytes)) = some (some z, d.sz, bytes)) (hz : z.cells.size = d.sz) (hs0 : 0 < d.sz) (hb0 : 0 < bytes)
    (v : Value) (xs : List α) (p : α) (cs : List Value) (ok : Nat → Prop) (hs : a.eval s = v) (hx : a.eval x = .slice (some ⟨W.heap.size, 0, none⟩) 1 1) (hp : d.M W 0 (fun _ => False) p cs)
    (HO : d.R e W 0 ok v xs) (hl : (xs.length + 1) * bytes ≤ 140737488355328)
    (h : ∀ A c w1, d.R e w1 0 (fun k => ok k ∨ W.heap.size ≤ k) (.slice A (xs ++ [p]).length c) (xs ++ [p]) → Mod (fun k => v.ownBlock = some k) W w1 → (∀ k, (Value.slice A (xs ++ [p]).length c).ownBlock = some k → v.ownBlock = some k ∨ W.heap.size ≤ k) → Kc (a.put o.dst (.slice A (xs ++ [p]).length c)) w1) :
    if Region.wanted o (yielded ops a.tmps) = true then Oper.wp P o a (W.alloc (.cells cs.toArray e)).drew Kc Q else Kc (a.put o.dst undef) (W.alloc (.cells cs.toArray e)).drew := by
  have := Kd.R_append_step (P := P) (Q := Q) (Kc := Kc) (w0 := W.drew) (W := W.drew) d 0 hw s x t e z bytes ho ht hinfo hz hs0 hb0 v xs p cs (fun k => ok k ∨ W.heap.size ≤ k) (fun _ => False) hs hx (d.M_move (fun k hk => hk.elim) hp) (fun k hk => hk.elim) (fun k hk => .inr hk) (Kd.R_drew (Kd.R_mono HO fun k hk => .inl hk)) ⟨rfl, rfl, rfl, Nat.le_refl _, fun k hk => absurd hk (Nat.not_lt_zero _)⟩ (Nat.zero_le _) hl ?_
  · exact this
  · intro v1 w1 hR _ hg hat
    obtain ⟨A, c, rfl⟩ := Kd.R_slice hR
    refine h A c w1 hR ((Mod.drew _ W).trans (Mod.of_grown hg fun k _ hk => hk)) fun k hk => ?_
    rcases hat with e | ⟨b, e, hb⟩
    · exact .inl (e ▸ hk)
    · rw [e] at hk; cases hk; exact .inr hb
end Go.Tat
/- One cell of a row's element is stored. -/
namespace Go.Tat
open Go.RowKit Go.Proofs.YtecgnfklfgjgaaaW.PrintWords
variable {α : Type} {d : Kd α} {enc : α → List Value}
theorem flat_put {s : Nat} (hs : ∀ x, (enc x).length = s) : ∀ (xs : List α) (i c : Nat) (x y : α) (v : Value), xs[i]? = some x → c < s → enc y = (enc x).set c v → (xs.set i y).flatMap enc = (xs.flatMap enc).set (i * s + c) v
  | [], i, c, x, y, v, h, _, _ => by simp at h
  | x0 :: xs, 0, c, x, y, v, h, hc, hy => by
    simp only [List.getElem?_cons_zero, Option.some.injEq] at h
    subst h
    simp only [List.set_cons_zero, List.flatMap_cons, Nat.zero_mul, Nat.zero_add]
    rw [List.set_append_left _ _ (by rw [hs]; exact hc), hy]
  | x0 :: xs, i + 1, c, x, y, v, h, hc, hy => by
    simp only [List.getElem?_cons_succ] at h
    simp only [List.set_cons_succ, List.flatMap_cons]
    rw [flat_put hs xs i c x y v h hc hy, List.set_append_right _ _ (by rw [hs, Nat.succ_mul]; omega), hs, show (i + 1) * s + c - s = i * s + c by rw [Nat.succ_mul]; omega]
theorem Row.put (F : Flat d enc) {w : World} {b e : Nat} {xs : List α} {ex : List Value} (hR : Row w b e enc xs ex) {i c : Nat} {x y : α} {v : Value} (hi : xs[i]? = some x) (hc : c < d.sz) (hy : enc y = (enc x).set c v) : Row (w.setCell ⟨b, i * d.sz + c, none⟩ v) b e enc (xs.set i y) ex := by
  obtain ⟨cur, hb, hcu⟩ := hR.rep
  have h := blk_set (g := b) (w := w) hb (i * d.sz + c) v
  have hm := Nat.mul_le_mul_right d.sz (show i + 1 ≤ xs.length from (List.getElem?_eq_some_iff.1 hi).1)
  rw [Nat.succ_mul] at hm
  refine ⟨_, h, ?_⟩
  rw [Array.toList_setIfInBounds, hcu, List.set_append_left _ _ (by rw [flat_len F.len]; omega), flat_put F.len xs i c x y v hi hc hy]
theorem St.put (F : Flat d enc) {Fp : Nat → Prop} {w0 w : World} {L : List Asr} (h : St Fp w0 w L) (k : Nat) {e g n cap : Nat} {xs : List α} (hk : L[k]? = some (slc d e (.slice (some ⟨g, 0, none⟩) n cap) xs)) {i c : Nat} {x y : α} {v : Value} (hi : xs[i]? = some x) (hc : c < d.sz) (hy : enc y = (enc x).set c v) : St Fp w0 (w.setCell ⟨g, i * d.sz + c, none⟩ v) (L.set k (slc d e (.slice (some ⟨g, 0, none⟩) n cap) (xs.set i y))) := by
  have hS := h.get k hk
  refine h.upd k hk (Mod.setCell (by simp [slc, slcF, Value.ownBlock]) v) ((slc_iff F).2 ?_) fun _ hk => .inl hk
  rcases (slc_iff F).1 hS with ⟨hv, _⟩ | ⟨g', cp, ex, hv, hR, h1, h2, h3⟩
  · injection hv with h1; cases h1
  · injection hv with a1 a2 a3
    injection a1 with a1
    injection a1 with a1
    subst a1; subst a2; subst a3
    exact .inr ⟨_, _, ex, by rw [List.length_set], hR.put F hi hc hy, by rw [List.length_set]; exact h1, h2, by rw [List.length_set]; exact h3⟩
theorem St.elem (F : Flat d enc) {Fp : Nat → Prop} {w0 w : World} {L : List Asr} (h : St Fp w0 w L) (k : Nat) {e g n cap : Nat} {xs : List α} (hk : L[k]? = some (slc d e (.slice (some ⟨g, 0, none⟩) n cap) xs)) {i c : Nat} {x : α} (hi : xs[i]? = some x) (hc : c < d.sz) : w.cell? ⟨g, i * d.sz + c, none⟩ = (enc x)[c]? ∧ w.frozen? ⟨g, i * d.sz + c, none⟩ = false := by
  rcases (slc_iff F).1 (h.get k hk) with ⟨hv, _⟩ | ⟨g', cp, ex, hv, hR, _⟩
  · injection hv with h1; cases h1
  · injection hv with a1 a2 a3
    injection a1 with a1
    injection a1 with a1
    subst a1
    exact ⟨hR.cell F.len hi hc, hR.fz _⟩
/-- A method that changes one object and gives new things. -/
theorem St.exUpd2 {F Fp : Nat → Prop} {w0 w w' : World} {A : List Asr} (h : St F w0 w A) (i : Nat) {ι κ : Type} {L0 : ι → List Asr} (hi : A[i]? = some (Asr.ex Fp L0)) {L1 : κ → List Asr} (j : κ) {M : List Asr} (h' : St Fp w w' (L1 j ++ M)) : St F w0 w' (A.set i (Asr.ex (fpsL (L1 j)) L1) ++ M) := by
  have h1 := h.exUpd i hi (L1 := L1) j (h'.sub (List.sublist_append_left _ _))
  have hin : ∀ b ∈ M, ∀ k, b.fp k → k < w.heap.size → Fp k := fun b hb => h'.inn b (List.mem_append_right _ hb)
  refine ⟨Sat.adds h1.sat (h'.sat.sub (List.sublist_append_right _ _)) fun a ha b hb => ?_, fun b hb k hk hl => ?_, h1.mod⟩
  · obtain ⟨n, hn⟩ := List.getElem?_of_mem ha
    by_cases e : n = i
    · subst e
      have hlt := (List.getElem?_eq_some_iff.1 hi).1
      rw [List.getElem?_set_self hlt] at hn
      injection hn with hn
      subst hn
      rintro k ⟨c, hc, hk⟩ hkb
      exact (List.pairwise_append.1 h'.sat.dis).2.2 c hc b hb k hk hkb
    · rw [List.getElem?_set_ne (fun h => e h.symm)] at hn
      intro k hk hkb
      have hlt := a.lt (h.get n hn) hk
      have hF := hin b hb k hkb hlt
      rcases Nat.lt_or_gt_of_ne e with h2 | h2
      · exact h.ne n i hn hi h2 k hk hF
      · exact h.ne i n hi hn h2 k hF hk
  · rcases List.mem_append.1 hb with hb | hb
    · exact h1.inn b hb k hk hl
    · have hm := h.mod.size
      exact h.inn _ (List.mem_of_getElem? hi) k (hin b hb k hk (by omega)) hl
end Go.Tat
/- What an argument that can be read holds, kind by kind. -/
namespace Go.Tat
open Go.RowKit Go.Deep Go.WideShapes Go.ChangeShapes Go.Proofs.YtecgnfklfgjgaaaW.PrintWords
/-- Whatever reads as a type's value is one of this kind. -/
structure Opens {α : Type} (P : Program) (t : TypeId) (d : Kd α) (g : α → Prop) : Prop where
  out : ∀ {H : Type} {enc : TypeId × Value → H} {w : World} {fuel : Nat} {cs : List Value} {x : DataW H × List MemPlace}, DataW.trod enc P w 0 (fun _ => true) true fuel t cs = some x → ∃ p, g p ∧ d.K w p cs
theorem Opens.int {P : Program} {t : TypeId} {k : IntKind} (ht : P.underlying t = some (.int k)) : Opens P t (Kd.int k) (fun n => (Lit.int k n).wf = true) := .mk fun h => by
  obtain ⟨n, rfl, _, hw⟩ := DataW.trod_int ht h
  exact ⟨n, hw, rfl⟩
theorem Opens.bool {P : Program} {t : TypeId} (ht : P.underlying t = some .bool) : Opens P t Kd.bool (fun _ => True) := .mk fun h => by
  obtain ⟨n, rfl, _⟩ := DataW.trod_bool ht h
  exact ⟨n, trivial, rfl⟩
theorem Opens.string {P : Program} {t : TypeId} (ht : P.underlying t = some .string) : Opens P t Kd.string (fun s => s.size ≤ maxLen) := .mk fun h => by
  obtain ⟨n, rfl, _, hw⟩ := DataW.trod_string ht h
  exact ⟨n, hw, rfl⟩
theorem Opens.slice {P : Program} {t e : TypeId} {α : Type} {d : Kd α} {g : α → Prop} [Inhabited α] (ht : P.underlying t = some (.slice e)) (hs : P.cellsOf e = d.sz) (ho : Opens P e d g) :
    Opens P t (Kd.slice e d) (fun xs => ∀ x ∈ xs, g x) := .mk fun {H enc w fuel cs x} h => by
  rcases open_slice ht h with ⟨rfl, _⟩ | ⟨a, len, cap, m, n, D, Pl, rfl, _, hl, hm, hmm, _, hx⟩
  · exact ⟨[], by simp, none, 0, rfl, Nat.le_refl _, Kd.C_nil d w⟩
  · simp only [if_true] at hmm
    obtain ⟨f, hf⟩ := choose_lt (n := len) (p := fun i p => g p ∧ ∃ cs', w.cells? 0 (a.add (i * P.cellsOf e)) (P.cellsOf e) = some cs' ∧ d.K w p cs') (fun i hi => by
      obtain ⟨cs', h1, h2⟩ := hx i (by omega)
      obtain ⟨p, hg, hk⟩ := ho.out h2
      exact ⟨p, hg, cs', h1, hk⟩)
    refine ⟨(List.range len).map f, ?_, some a, cap, by simp, by simpa using hl, ?_⟩
    · intro y hy
      obtain ⟨i, hi, rfl⟩ := List.mem_map.1 hy
      exact (hf i (List.mem_range.1 hi)).1
    · refine ⟨rfl, by simp; unfold maxLen at hm; omega, fun _ => ⟨a, rfl, fun j p hp => ?_⟩⟩
      have hj : j < len := by
        have := (List.getElem?_eq_some_iff.1 hp).1
        simpa using this
      obtain ⟨_, cs', h1, hk⟩ := hf j hj
      have hpe : f j = p := by simpa [hj] using hp
      obtain ⟨_, hlen, hc⟩ := World.cells?_some h1
      refine ⟨cs', by rw [hlen, hs], hpe ▸ hk, fun i u hu => ?_⟩
      have hi : i < P.cellsOf e := by
        have := (List.getElem?_eq_some_iff.1 hu).1
        omega
      have := hc i hi
      rw [Deep.add_add, hs] at this
      rw [this, hu]
/-- The fields from a place on. -/
structure OpensF {α : Type} (P : Program) (fs : List Field) (off : Nat) (d : Kd α) (g : α → Prop) : Prop where
  out : ∀ {H : Type} {enc : TypeId × Value → H} {w : World} {n : Nat} {cs : List Value}, off + d.sz ≤ cs.length →
    (∀ (j : Nat) (f : Field), fs[j]? = some f → ∃ y : DataW H × List MemPlace, DataW.trod enc P w 0 (fun _ => true) true n f.type ((cs.drop f.offset).take (P.cellsOf f.type)) = some y) → ∃ p, g p ∧ d.K w p ((cs.drop off).take d.sz)
theorem OpensF.one {P : Program} {f : Field} {off : Nat} {α : Type} {d : Kd α} {g : α → Prop} (hf : f.offset = off) (hs : P.cellsOf f.type = d.sz) (ho : Opens P f.type d g) : OpensF P [f] off d g := .mk fun _ h => by
  obtain ⟨y, hy⟩ := h 0 f rfl
  obtain ⟨p, hg, hk⟩ := ho.out hy
  rw [hf, hs] at hk
  exact ⟨p, hg, hk⟩
theorem OpensF.cons {P : Program} {f : Field} {fs : List Field} {off : Nat} {α β : Type} {d : Kd α} {d' : Kd β} {g : α → Prop} {g' : β → Prop} (hf : f.offset = off) (hs : P.cellsOf f.type = d.sz) (ho : Opens P f.type d g)
    (hr : OpensF P fs (off + d.sz) d' g') : OpensF P (f :: fs) off (Kd.pair d d') (fun p => g p.1 ∧ g' p.2) := .mk fun {H enc w n cs} hl h => by
  obtain ⟨y, hy⟩ := h 0 f rfl
  obtain ⟨p, hg, hk⟩ := ho.out hy
  rw [hf, hs] at hk
  have hl' : off + (d.sz + d'.sz) ≤ cs.length := hl
  obtain ⟨q, hg', hk'⟩ := hr.out (by omega) (fun j f' hj => h (j + 1) f' hj)
  refine ⟨(p, q), ⟨hg, hg'⟩, _, _, ?_, hk, hk'⟩
  show (cs.drop off).take (d.sz + d'.sz) = _
  rw [List.take_add, List.drop_drop]
theorem Opens.struct {P : Program} {t : TypeId} {fs : Array Field} {α β : Type} {d : Kd α} {g : α → Prop} (ht : P.underlying t = some (.struct fs)) (hs : P.cellsOf t = d.sz) (ho : OpensF P fs.toList 0 d g) (f : β → α) (f' : α → β) (hff : ∀ p, f (f' p) = p) :
    Opens P t (Kd.iso d f) (fun x => g (f x)) := .mk fun h => by
  obtain ⟨xs, n, _, rfl, hl, hlen, hf⟩ := DataW.trod_struct ht h
  rename_i H enc w fuel cs x
  have h0 : 0 + d.sz ≤ cs.length := by omega
  obtain ⟨p, hg, hk⟩ := ho.out (w := w) (enc := enc) (n := n) (cs := cs) h0 (fun j f hj => by
    have hjl : j < xs.length := by
      have := (List.getElem?_eq_some_iff.1 hj).1
      rw [hlen]; simpa using this
    exact ⟨xs[j], (hf j f (by simpa using hj)).trans (by simp [hjl])⟩)
  refine ⟨f' p, by show g (f (f' p)); rw [hff]; exact hg, ?_⟩
  show d.K w (f (f' p)) cs
  rw [hff]
  rwa [List.drop_zero, List.take_of_length_le (by omega)] at hk
/-- An argument that is a slice. -/
theorem Opens.arg {P : Program} {t e : TypeId} {α : Type} {d : Kd α} {g : α → Prop} [Inhabited α] (ht : P.underlying t = some (.slice e)) (hs : P.cellsOf e = d.sz) (ho : Opens P e d g)
    {H : Type} {enc : TypeId × Value → H} {w : World} {A : Option Addr} {len cap : Nat} {y : DataW H} {ps : List MemPlace} (h : DataW.Trod enc P w 0 (fun _ => true) true t (.slice A len cap) y ps) :
    ∃ xs, len = xs.length ∧ xs.length ≤ cap ∧ d.C w A xs.length xs ∧ ∀ x ∈ xs, g x := by
  obtain ⟨fuel, hf⟩ := h
  obtain ⟨xs, hg, A', c, hv, hl, hC⟩ := (Opens.slice ht hs ho).out hf
  simp only [Value.cells, List.cons.injEq, Value.slice.injEq, and_true] at hv
  obtain ⟨rfl, rfl, rfl⟩ := hv
  exact ⟨xs, rfl, hl, hC, hg⟩
end Go.Tat
namespace Go.Tat
open Go.RowKit Go.WideShapes Go.Proofs.YtecgnfklfgjgaaaW.PrintWords
theorem Opens.agg {P : Program} {t : TypeId} {fs : Array Field} {α : Type} {d : Kd α} {g : α → Prop} (ht : P.underlying t = some (.struct fs)) (ho : Opens P t d g) {r : Reach} {base : Nat}
    {H : Type} {enc : TypeId × Value → H} {w w' : World} {v : Value} {y : DataW H} {ps : List MemPlace} (hv : Value.okWide P w' r base t v) (h : DataW.Trod enc P w 0 (fun _ => true) true t v y ps) :
    ∃ x cs, v = .agg cs.toArray ∧ d.K w x cs ∧ g x := by
  obtain ⟨cs, rfl, _⟩ := okWide_struct ht hv
  obtain ⟨fuel, hf⟩ := h
  obtain ⟨x, hg, hK⟩ := ho.out hf
  exact ⟨x, cs.toList, by simp, by simpa [Value.cells] using hK, hg⟩
end Go.Tat
/- More of assertions: what a call made anew, beside what was there. -/
namespace Go.Tat
open Go.RowKit Go.Proofs.YtecgnfklfgjgaaaW.PrintWords
theorem St.adds {F : Nat → Prop} {w0 w w' : World} {A M : List Asr} (h : St F w0 w A) (h' : St (fun _ => False) w w' M) : St F w0 w' (A ++ M) := by
  have hb : Below w.heap.size w w' := h'.mod.below (Nat.le_refl _) (by simp)
  have h1 := h.below hb
  have hn : ∀ b ∈ M, ∀ k, b.fp k → w.heap.size ≤ k := fun b hbm k hk => by
    rcases Nat.lt_or_ge k w.heap.size with h2 | h2
    · exact (h'.inn b hbm k hk h2).elim
    · exact h2
  refine ⟨Sat.adds h1.sat h'.sat fun a ha b hb k hk hk' => ?_, fun b hb k hk hl => ?_, h1.mod⟩
  · have := a.lt (h.sat.all a ha) hk
    have := hn b hb k hk'
    omega
  · rcases List.mem_append.1 hb with hb | hb
    · exact h1.inn b hb k hk hl
    · have := hn b hb k hk
      have := h.mod.size
      omega
/-- A block of values, read as a row of elements of one cell. -/
theorem C_vals {α : Type} {d : Kd α} (hd : d.sz = 1) {w : World} {b : Nat} {t : TypeId} (xs : List α) (vs : List Value) (h : w.heap[b]? = some (.cells vs.toArray t (0, 0))) (hlen : xs.length = vs.length) (hmax : xs.length ≤ 9223372036854775807) (hK : ∀ (j : Nat) (x : α) (v : Value), xs[j]? = some x → vs[j]? = some v → d.K w x [v]) : d.C w (some ⟨b, 0, none⟩) xs.length xs := by
  refine ⟨rfl, hmax, fun _ => ⟨_, rfl, fun j x hx => ?_⟩⟩
  have hj := (List.getElem?_eq_some_iff.1 hx).1
  obtain ⟨v, hv⟩ : ∃ v, vs[j]? = some v := ⟨_, List.getElem?_eq_getElem (by omega)⟩
  refine ⟨[v], by rw [hd]; rfl, hK j x v hx hv, fun i u hu => ?_⟩
  have hi := (List.getElem?_eq_some_iff.1 hu).1
  have hi0 : i = 0 := by simp at hi; exact hi
  subst hi0
  rw [hd]
  have e : (⟨b, 0, none⟩ : Addr).add (j * 1 + 0) = ⟨b, j, none⟩ := by
    rw [Nat.mul_one, Nat.add_zero]
    unfold Addr.add
    split
    · rename_i h0; rw [h0]
    · rw [Nat.zero_add]
  rw [e, blk_cell h, List.getElem?_toArray, hv]
  exact hu
theorem C_ints {k : IntKind} {w : World} {b : Nat} {t : TypeId} (xs : List Int) (h : w.heap[b]? = some (.cells (xs.map (Value.int k)).toArray t (0, 0))) (hmax : xs.length ≤ 9223372036854775807) : (Kd.int k).C w (some ⟨b, 0, none⟩) xs.length xs := by
  refine C_vals rfl xs _ h (by simp) hmax fun j x v hx hv => ?_
  rw [List.getElem?_map, hx] at hv
  cases hv
  rfl
theorem C_slice1 {α : Type} {d : Kd α} {e : Nat} {w : World} {b : Nat} {t : TypeId} {A : Option Addr} {c : Nat} {xs : List α} (h : w.heap[b]? = some (.cells #[.slice A xs.length c] t (0, 0))) (hc : xs.length ≤ c) (hC : d.C w A xs.length xs) : (Kd.slice e d).C w (some ⟨b, 0, none⟩) 1 [xs] := by
  refine C_vals rfl [xs] [.slice A xs.length c] h rfl (by simp) fun j x v hx hv => ?_
  match j, hx, hv with
  | 0, hx, hv => cases hx; cases hv; exact ⟨A, c, rfl, hc, hC⟩
  | j + 1, hx, _ => simp at hx
theorem C_slice2 {α : Type} {d : Kd α} {e : Nat} {w : World} {b : Nat} {t : TypeId} {A B : Option Addr} {c c' : Nat} {xs ys : List α} (h : w.heap[b]? = some (.cells #[.slice A xs.length c, .slice B ys.length c'] t (0, 0))) (hc : xs.length ≤ c) (hC : d.C w A xs.length xs) (hc' : ys.length ≤ c') (hC' : d.C w B ys.length ys) : (Kd.slice e d).C w (some ⟨b, 0, none⟩) 2 [xs, ys] := by
  refine C_vals rfl [xs, ys] [.slice A xs.length c, .slice B ys.length c'] h rfl (by simp) fun j x v hx hv => ?_
  match j, hx, hv with
  | 0, hx, hv => cases hx; cases hv; exact ⟨A, c, rfl, hc, hC⟩
  | 1, hx, hv => cases hx; cases hv; exact ⟨B, c', rfl, hc', hC'⟩
  | j + 2, hx, _ => simp at hx
end Go.Tat
/- append of a row; an empty row made. -/
namespace Go.Tat
open Go.RowKit Go.Proofs.YtecgnfklfgjgaaaW.PrintWords
theorem wpList_appN {P : Program} {ops : Array Oper} {rest : List Oper} {o : Oper} {a : Act} {Q : Exit → Act → World → Prop} {α : Type} {d : Kd α} {enc : α → List Value} (F : Flat d enc) {W : World} (hgd : o.guard = none) (s x : Operand) (t e : TypeId) (z : Value) (bytes : Nat)
    (ho : o.op = .call { callee := .builtin .append, args := #[s, x], argTypes := #[t, t] })
    (ht : P.underlying t = some (.slice e)) (hinfo : (P.info? e).map (fun i => (i.zero, i.size, i.bytes)) = some (some z, d.sz, bytes)) (hz : z.cells.size = d.sz) (hs0 : 0 < d.sz) (hb0 : 0 < bytes)
    (v : Value) (xs ys : List α) (A : Option Addr) (c : Nat) (ok : Nat → Prop) (hs : a.eval s = v) (hx : a.eval x = .slice A ys.length c)
    (HO : d.R e W 0 ok v xs) (HR : d.C W A ys.length ys) (hl : (xs.length + ys.length) * bytes ≤ 140737488355328)
    (h : ∀ (T : List α) A c w1, T = xs ++ ys → d.R e w1 0 (fun k => ok k ∨ W.heap.size ≤ k) (.slice A T.length c) T → Mod (fun k => v.ownBlock = some k) W w1 → (∀ k, (Value.slice A T.length c).ownBlock = some k → v.ownBlock = some k ∨ W.heap.size ≤ k) → wpList P ops Q rest (a.put o.dst (.slice A T.length c)) w1) :
    wpList P ops Q (o :: rest) a W := by
  refine Kd.R_append_rows d (Rr := d.K W) (w0 := W) 0 hgd s x t e z bytes ho ht hinfo hz hs0 hb0 v xs ys A ys.length c (fun k => ok k ∨ W.heap.size ≤ k) (fun _ => False) hs hx (Kd.R_mono HO fun k hk => .inl hk) HR (fun x cs hK => F.M.2 (F.K.1 hK)) (fun k hk => hk.elim) (fun k hk => .inr hk) ⟨rfl, rfl, rfl, Nat.le_refl _, fun k hk => absurd hk (Nat.not_lt_zero _)⟩ (Nat.zero_le _) hl ?_
  intro v1 w1 hR _ hg hat
  obtain ⟨A, c, rfl⟩ := Kd.R_slice hR
  refine h _ A c w1 rfl hR (Mod.of_grown hg fun k _ hk => hk) fun k hk => ?_
  rcases hat with e | ⟨b, e, hb⟩
  · exact .inl (e ▸ hk)
  · rw [e] at hk; cases hk; exact .inr hb
theorem step_appN {P : Program} {ops : Array Oper} {o : Oper} {a : Act} {Q : Exit → Act → World → Prop} {Kc : Act → World → Prop} {α : Type} {d : Kd α} {enc : α → List Value} (F : Flat d enc) {W : World} (hw : Region.wanted o (yielded ops a.tmps) = true) (s x : Operand) (t e : TypeId) (z : Value) (bytes : Nat)
    (ho : o.op = .call { callee := .builtin .append, args := #[s, x], argTypes := #[t, t] })
    (ht : P.underlying t = some (.slice e)) (hinfo : (P.info? e).map (fun i => (i.zero, i.size, i.bytes)) = some (some z, d.sz, bytes)) (hz : z.cells.size = d.sz) (hs0 : 0 < d.sz) (hb0 : 0 < bytes)
    (v : Value) (xs ys : List α) (A : Option Addr) (c : Nat) (ok : Nat → Prop) (hs : a.eval s = v) (hx : a.eval x = .slice A ys.length c)
    (HO : d.R e W 0 ok v xs) (HR : d.C W A ys.length ys) (hl : (xs.length + ys.length) * bytes ≤ 140737488355328)
    (h : ∀ (T : List α) A c w1, T = xs ++ ys → d.R e w1 0 (fun k => ok k ∨ W.heap.size ≤ k) (.slice A T.length c) T → Mod (fun k => v.ownBlock = some k) W w1 → (∀ k, (Value.slice A T.length c).ownBlock = some k → v.ownBlock = some k ∨ W.heap.size ≤ k) → Kc (a.put o.dst (.slice A T.length c)) w1) :
    if Region.wanted o (yielded ops a.tmps) = true then Oper.wp P o a W Kc Q else Kc (a.put o.dst undef) W := by
  refine Kd.R_append_rows_step d (Rr := d.K W) (w0 := W) 0 hw s x t e z bytes ho ht hinfo hz hs0 hb0 v xs ys A ys.length c (fun k => ok k ∨ W.heap.size ≤ k) (fun _ => False) hs hx (Kd.R_mono HO fun k hk => .inl hk) HR (fun x cs hK => F.M.2 (F.K.1 hK)) (fun k hk => hk.elim) (fun k hk => .inr hk) ⟨rfl, rfl, rfl, Nat.le_refl _, fun k hk => absurd hk (Nat.not_lt_zero _)⟩ (Nat.zero_le _) hl ?_
  intro v1 w1 hR _ hg hat
  obtain ⟨A, c, rfl⟩ := Kd.R_slice hR
  refine h _ A c w1 rfl hR (Mod.of_grown hg fun k _ hk => hk) fun k hk => ?_
  rcases hat with e | ⟨b, e, hb⟩
  · exact .inl (e ▸ hk)
  · rw [e] at hk; cases hk; exact .inr hb
/-- An empty row that isn't nil. -/
theorem slc_empty {α : Type} {d : Kd α} {enc : α → List Value} (F : Flat d enc) {e b : Nat} {w : World} (h : w.heap[b]? = some (.cells #[] e (0, 0))) : (slc d e (.slice (some ⟨b, 0, none⟩) 0 0) []).holds w :=
  (slc_iff F).2 (.inr ⟨b, 0, [], rfl, ⟨#[], h, rfl⟩, Nat.le_refl _, Nat.zero_le _, by simp⟩)
theorem St.empty {α : Type} {d : Kd α} {enc : α → List Value} (F : Flat d enc) {Fp : Nat → Prop} {w0 w : World} {A : List Asr} (h : St Fp w0 w A) (e b : Nat) (hb : w.heap.size = b) : St Fp w0 (w.alloc (.cells #[] e)) (A ++ [slc d e (.slice (some ⟨b, 0, none⟩) 0 0) []]) := by
  subst hb
  refine h.add ((Below.refl _ _).alloc (Nat.le_refl _) _) (slc_empty F (heap_alloc_new w _)) fun k hk => ?_
  have e : w.heap.size = k := by simpa [slcF, Value.ownBlock] using hk
  omega
/-- A row written out. -/
theorem slc_lit {α : Type} {d : Kd α} {enc : α → List Value} (F : Flat d enc) {e b : Nat} {w : World} (xs : List α) (cs : Array Value) (hcs : cs.toList = xs.flatMap enc) (h : w.heap[b]? = some (.cells cs e (0, 0))) (hl : xs.length ≤ maxLen) : (slc d e (.slice (some ⟨b, 0, none⟩) xs.length xs.length) xs).holds w :=
  (slc_iff F).2 (.inr ⟨b, xs.length, [], rfl, ⟨cs, h, by rw [hcs, List.append_nil]⟩, Nat.le_refl _, hl, by simp⟩)
/-- What a printed contract gives, as a bundle. -/
theorem St.ofR {α : Type} {d : Kd α} {e : Nat} {w w' : World} {ok : Nat → Prop} {v : Value} {xs : List α} (h : d.R e w' w.heap.size ok v xs) (hE : d.E = []) (b : Below w.heap.size w w') : St (fun _ => False) w w' [slc d e v xs] := by
  have h0 := St.nil (fun _ => False) w
  have h1 := h0.add (a := slc d e v xs) b (slc_of h hE) (fun k hk => by
    obtain ⟨_, inner, ⟨_, ho⟩, _⟩ := h
    rcases ho with ⟨rfl, _⟩ | ⟨g, cap, cur, rfl, hg, _⟩
    · simp [slcF, Value.ownBlock] at hk
    · have e : g = k := by simpa [slcF, Value.ownBlock] using hk
      omega)
  exact h1
/-- A part of a row that came in. -/
theorem C_dropped {k : IntKind} {P : Program} (t e : TypeId) {i : TypeInfo} (ht : P.underlying t = some (.slice e)) (hi : P.info? e = some i) (hsz : i.size = 1) (A : Option Addr) (c : Nat) (xs : List Int) (j : Nat) (hj : j ≤ xs.length) (hc : xs.length ≤ c) :
    ∃ A' : Option Addr, (∀ W : World, (Instr.slice t (.slice A xs.length c) (some (.int .i64 (j : Int))) none none).run P W = .ok (.slice A' (xs.drop j).length (c - j)) W) ∧
      (∀ w : World, (Kd.int k).C w A xs.length xs → (Kd.int k).C w A' (xs.drop j).length (xs.drop j)) ∧ (xs.drop j).length ≤ c - j := by
  obtain ⟨A', h1, h2, h3⟩ := print_drop_of (Value.int k) 0 t e .i64 ht hi hsz A c xs (j : Int) (by omega) (by omega) hc
  exact ⟨A', h1, fun w h => Kd.C_of_reads (h2 w (Kd.reads_of_C (d := 0) h)), h3⟩
end Go.Tat
/- append, told with the bundle: what comes is hidden. -/
namespace Go.Tat
open Go.RowKit Go.Proofs.YtecgnfklfgjgaaaW.PrintWords
section
variable {P : Program} {ops : Array Oper} {rest : List Oper} {o : Oper} {a : Act} {Q : Exit → Act → World → Prop} {α : Type} {d : Kd α} {enc : α → List Value} {Fp : Nat → Prop} {w0 W : World} {L : List Asr}
/-- append of a row. -/
theorem St.wpN (F : Flat d enc) (hgd : o.guard = none) (s x : Operand) (t e : TypeId) (z : Value) (bytes : Nat)
    (ho : o.op = .call { callee := .builtin .append, args := #[s, x], argTypes := #[t, t] })
    (ht : P.underlying t = some (.slice e)) (hinfo : (P.info? e).map (fun i => (i.zero, i.size, i.bytes)) = some (some z, d.sz, bytes)) (hz : z.cells.size = d.sz) (hs0 : 0 < d.sz) (hb0 : 0 < bytes)
    (H : St Fp w0 W L) (i : Nat) {v : Value} {xs : List α} (hi : L[i]? = some (slc d e v xs)) (ys : List α) (A : Option Addr) (c : Nat) (hs : a.eval s = v) (hx : a.eval x = .slice A ys.length c)
    (HR : d.C W A ys.length ys) (hl : (xs.length + ys.length) * bytes ≤ 140737488355328)
    (h : ∀ (T : List α) A c w1, Hid (T = xs ++ ys ∧ St Fp w0 w1 (L.set i (slc d e (.slice A T.length c) T))) → wpList P ops Q rest (a.put o.dst (.slice A T.length c)) w1) :
    wpList P ops Q (o :: rest) a W :=
  wpList_appN F hgd s x t e z bytes ho ht hinfo hz hs0 hb0 v xs ys A c _ hs hx (slc_R (H.get i hi)) HR hl fun T A c w1 hT R m ho => h T A c w1 (Lib.hid ⟨hT, H.app i hi F.E R m ho⟩)
/-- append of one element: the goal's world is that of the variadic's box. -/
theorem St.wp1 (F : Flat d enc) (hgd : o.guard = none) (s x : Operand) (t e : TypeId) (z : Value) (bytes : Nat)
    (ho : o.op = .call { callee := .builtin .append, args := #[s, x], argTypes := #[t, t] })
    (ht : P.underlying t = some (.slice e)) (hinfo : (P.info? e).map (fun i => (i.zero, i.size, i.bytes)) = some (some z, d.sz, bytes)) (hz : z.cells.size = d.sz) (hs0 : 0 < d.sz) (hb0 : 0 < bytes)
    (H : St Fp w0 W L) (i : Nat) {v : Value} {xs : List α} (hi : L[i]? = some (slc d e v xs)) (p : α) (cs : Array Value) (hcs : enc p = cs.toList) (hs : a.eval s = v) (hx : a.eval x = .slice (some ⟨W.heap.size, 0, none⟩) 1 1)
    (hl : (xs.length + 1) * bytes ≤ 140737488355328)
    (h : ∀ (T : List α) A c w1, Hid (T = xs ++ [p] ∧ St Fp w0 w1 (L.set i (slc d e (.slice A T.length c) T))) → wpList P ops Q rest (a.put o.dst (.slice A T.length c)) w1) :
    wpList P ops Q (o :: rest) a (W.alloc (.cells cs e)) := by
  have hp : d.M W 0 (fun _ => False) p cs.toList := F.M.2 hcs.symm
  have := wpList_app1 (P := P) (ops := ops) (rest := rest) (o := o) (a := a) (Q := Q) d hgd s x t e z bytes ho ht hinfo hz hs0 hb0 v xs p cs.toList _ hs hx hp (slc_R (H.get i hi)) hl fun A c w1 R m ho => h _ A c w1 (Lib.hid ⟨rfl, H.app i hi F.E R m ho⟩)
  simpa using this
end
section
variable {P : Program} {ops : Array Oper} {o : Oper} {a : Act} {Q : Exit → Act → World → Prop} {Kc : Act → World → Prop} {α : Type} {d : Kd α} {enc : α → List Value} {Fp : Nat → Prop} {w0 W : World} {L : List Asr}
/-- The same, at a step of a region that draws. -/
theorem St.stepN (F : Flat d enc) (hw : Region.wanted o (yielded ops a.tmps) = true) (s x : Operand) (t e : TypeId) (z : Value) (bytes : Nat)
    (ho : o.op = .call { callee := .builtin .append, args := #[s, x], argTypes := #[t, t] })
    (ht : P.underlying t = some (.slice e)) (hinfo : (P.info? e).map (fun i => (i.zero, i.size, i.bytes)) = some (some z, d.sz, bytes)) (hz : z.cells.size = d.sz) (hs0 : 0 < d.sz) (hb0 : 0 < bytes)
    (H : St Fp w0 W L) (i : Nat) {v : Value} {xs : List α} (hi : L[i]? = some (slc d e v xs)) (ys : List α) (A : Option Addr) (c : Nat) (hs : a.eval s = v) (hx : a.eval x = .slice A ys.length c)
    (HR : d.C W A ys.length ys) (hl : (xs.length + ys.length) * bytes ≤ 140737488355328)
    (h : ∀ (T : List α) A c w1, Hid (T = xs ++ ys ∧ St Fp w0 w1 (L.set i (slc d e (.slice A T.length c) T))) → Kc (a.put o.dst (.slice A T.length c)) w1) :
    if Region.wanted o (yielded ops a.tmps) = true then Oper.wp P o a W Kc Q else Kc (a.put o.dst undef) W :=
  step_appN F hw s x t e z bytes ho ht hinfo hz hs0 hb0 v xs ys A c _ hs hx (slc_R (H.get i hi)) HR hl fun T A c w1 hT R m ho => h T A c w1 (Lib.hid ⟨hT, H.app i hi F.E R m ho⟩)
end
end Go.Tat
/- make of a full row; a row copied over a row of its length. -/
namespace Go.Tat
open Go.RowKit Go.Proofs.YtecgnfklfgjgaaaW.PrintWords
section
variable {α : Type} {d : Kd α} {enc : α → List Value}
theorem made_rep (F : Flat d enc) (z : α) (zc : Array Value) (hz : zc.toList = enc z) (n : Nat) : (madeCells zc (n * d.sz)).toList = (List.replicate n z).flatMap enc := by
  have hl := flat_len F.len (List.replicate n z)
  rw [List.length_replicate] at hl
  have hzs : zc.size = d.sz := by rw [← Array.length_toList, hz, F.len]
  apply List.ext_getElem?
  intro j
  by_cases hj : j < n * d.sz
  · have hp : 0 < d.sz := Nat.pos_of_ne_zero fun e => by rw [e] at hj; omega
    have hq : j / d.sz < n := Nat.div_lt_of_lt_mul (by rw [Nat.mul_comm]; exact hj)
    have hr := Nat.mod_lt j hp
    have hd : (j / d.sz) * d.sz + j % d.sz = j := by rw [Nat.mul_comm]; exact Nat.div_add_mod j d.sz
    have h1 := flat_get F.len (List.replicate n z) (j / d.sz) (j % d.sz) z (by rw [List.getElem?_replicate, if_pos hq]) hr
    rw [hd] at h1
    rw [h1, ← hz, Array.getElem?_toList, Array.getElem?_toList]
    unfold madeCells
    rw [Array.getElem?_map, Array.getElem?_range, if_pos hj, Option.map_some, hzs]
    have : j % d.sz < zc.size := by rw [hzs]; exact hr
    rw [Array.getElem?_eq_getElem this, getElem!_pos zc _ this]
  · rw [List.getElem?_eq_none (by rw [Array.length_toList, size_madeCells]; omega), List.getElem?_eq_none (by rw [hl]; omega)]
theorem C_flat (F : Flat d enc) {w : World} {ad : Addr} {ys : List α} (h : d.C w (some ad) ys.length ys) (hp : 0 < d.sz) (j : Nat) (v : Value) (hj : (ys.flatMap enc)[j]? = some v) : w.cell? (ad.add j) = some v := by
  have hlt := (List.getElem?_eq_some_iff.1 hj).1
  rw [flat_len F.len] at hlt
  have hq : j / d.sz < ys.length := Nat.div_lt_of_lt_mul (by rw [Nat.mul_comm]; exact hlt)
  have hr := Nat.mod_lt j hp
  have hd : (j / d.sz) * d.sz + j % d.sz = j := by rw [Nat.mul_comm]; exact Nat.div_add_mod j d.sz
  have h1 := flat_get F.len ys (j / d.sz) (j % d.sz) _ (List.getElem?_eq_getElem hq) hr
  rw [hd, hj] at h1
  obtain ⟨ad', e, h2⟩ := h.2.2 (Nat.lt_of_le_of_lt (Nat.zero_le _) hq)
  injection e with e
  subst e
  obtain ⟨cs, _, hK, hcs⟩ := h2 (j / d.sz) _ (List.getElem?_eq_getElem hq)
  have hK' := F.K.1 hK
  subst hK'
  have := hcs (j % d.sz) v h1.symm
  rw [hd] at this
  exact this
variable {P : Program} {ops : Array Oper} {rest : List Oper} {o : Oper} {a : Act} {Q : Exit → Act → World → Prop} {Fp : Nat → Prop} {w0 W : World} {L : List Asr}
theorem St.wpMake (F : Flat d enc) (hgd : o.guard = none) (l c : Operand) (t e : TypeId) (hop : o.op = Op.makeSlice t l c) (ht : P.underlying t = some (.slice e)) (z : α) (zv : Value) (bytes : Nat)
    (hinfo : (P.info? e).map (fun i => (i.zero, i.size, i.bytes)) = some (some zv, d.sz, bytes)) (hzv : zv.cells.toList = enc z) (n : Nat) (X Y : Int) (hl : a.eval l = .int .i64 X) (hc : a.eval c = .int .i64 Y) (hX : X = (n : Int)) (hY : Y = (n : Int)) (hb : bytes * n ≤ 281474976710656) (hn : n ≤ maxLen)
    (H : St Fp w0 W L) (h : ∀ (T : List α) b w1, Hid (T = List.replicate n z ∧ T.length = n ∧ St Fp w0 w1 (L ++ [slc d e (.slice (some ⟨b, 0, none⟩) n n) T])) → wpList P ops Q rest (a.put o.dst (.slice (some ⟨b, 0, none⟩) n n)) w1) :
    wpList P ops Q (o :: rest) a W := by
  refine wpList_plain hgd fun K hK => ?_
  subst hX; subst hY
  cases hq : P.info? e with
  | none => rw [hq] at hinfo; cases hinfo
  | some i =>
    rw [hq] at hinfo
    injection hinfo with hinfo
    injection hinfo with h1 h2
    injection h2 with h2 h3
    have hn' : (n : Int) ≤ 9223372036854775807 := by simp [maxLen] at hn; omega
    have hb' : (i.bytes : Int) * (n : Int) ≤ 281474976710656 := by
      have h : ((i.bytes * n : Nat) : Int) ≤ 281474976710656 := by rw [h3]; omega
      rwa [Int.natCast_mul] at h
    have hr := run_make (P := P) W t e i zv ht hq h1 .i64 .i64 n n (by omega) (Int.le_refl _) hb' hn'
    simp only [Int.toNat_natCast] at hr
    unfold Oper.wp
    simp [execOp, hop, hl, hc, hr, Result.andThen]
    refine hK _ _ (h (List.replicate n z) W.heap.size _ (Lib.hid ⟨rfl, List.length_replicate, ?_⟩))
    refine H.add ((Below.refl _ _).alloc (Nat.le_refl _) _) ((slc_iff F).2 (.inr ⟨W.heap.size, n, [], by rw [List.length_replicate], ⟨_, heap_alloc_new W _, ?_⟩, by simp, hn, by simp⟩)) (fun k hk => ?_)
    · rw [h2, made_rep F z zv.cells hzv, List.append_nil]
    · have e : W.heap.size = k := by simpa [slcF, Value.ownBlock] using hk
      omega
theorem St.wpCopy (F : Flat d enc) (hgd : o.guard = none) (s x : Operand) (dT sT e : TypeId) (ho : o.op = .call { callee := .builtin .copy, args := #[s, x], argTypes := #[dT, sT] }) (hu : P.underlying dT = some (.slice e)) (hsz : (P.info? e).map (·.size) = some d.sz) (hp : 0 < d.sz)
    (H : St Fp w0 W L) (i : Nat) {g n cap : Nat} {xs : List α} (hi : L[i]? = some (slc d e (.slice (some ⟨g, 0, none⟩) n cap) xs)) (ys : List α) (S : Option Addr) (c : Nat) (hs : a.eval s = .slice (some ⟨g, 0, none⟩) n cap) (hx : a.eval x = .slice S ys.length c) (HR : d.C W S ys.length ys) (hlen : ys.length = xs.length)
    (h : ∀ w1, Hid (St Fp w0 w1 (L.set i (slc d e (.slice (some ⟨g, 0, none⟩) n cap) ys))) → wpList P ops Q rest (a.put o.dst (.int .i64 (ys.length : Int))) w1) :
    wpList P ops Q (o :: rest) a W := by
  refine wpList_plain hgd fun K hK => ?_
  obtain ⟨ex, hR, hnl, h1, h2, h3⟩ : ∃ ex, Row W g e enc xs ex ∧ n = xs.length ∧ xs.length ≤ cap ∧ cap ≤ maxLen ∧ ex.length = (cap - xs.length) * d.sz := by
    rcases (slc_iff F).1 (H.get i hi) with ⟨hv, _⟩ | ⟨g', cp, ex, hv, hR, h1, h2, h3⟩
    · injection hv with h1; cases h1
    · injection hv with a1 a2 a3
      injection a1 with a1
      injection a1 with a1
      subst a1; subst a2; subst a3
      exact ⟨ex, hR, rfl, h1, h2, h3⟩
  subst hnl
  obtain ⟨cur, hg, hcu⟩ := hR.rep
  have hfy := flat_len F.len ys
  have hfx := flat_len F.len xs
  have hcl : cur.size = xs.length * d.sz + (cap - xs.length) * d.sz := by rw [← Array.length_toList, hcu, List.length_append, hfx, h3]
  have h1c : ∀ v ∈ ys.flatMap enc, v.oneCell' = true := fun v hv => by
    obtain ⟨y, _, hy⟩ := List.mem_flatMap.1 hv
    exact F.one y v hy
  have hst := _root_.Go.run_storeCells_at P g 0 e (ys.flatMap enc) 0 cur W hg (by rw [hfy, hlen, hcl]; omega) h1c
  have hin : ∀ w1 : World, w1.heap[g]? = some (.cells (ys.flatMap enc ++ ex).toArray e (0, 0)) → (slc d e (.slice (some ⟨g, 0, none⟩) xs.length cap) ys).holds w1 := fun w1 hw =>
    (slc_iff F).2 (.inr ⟨g, cap, ex, by rw [hlen], ⟨_, hw, rfl⟩, by omega, h2, by rw [hlen]; exact h3⟩)
  cases hq : P.info? e with
  | none => simp [hq] at hsz
  | some inf =>
    have hi' : inf.size = d.sz := by simpa [hq] using hsz
    have hld : (Builtin.firstCells inf.size ys.length (.slice S ys.length c)).run P W = .ok (ys.flatMap enc).toArray W := by
      rcases Nat.eq_zero_or_pos ys.length with h0 | h0
      · obtain rfl := List.eq_nil_of_length_eq_zero h0
        cases S with
        | none => simp [Builtin.firstCells]
        | some ad =>
          have := run_loadCells_list (P := P) W ad [] (by simp)
          simpa [Builtin.firstCells] using this
      · obtain ⟨ad, rfl, _⟩ := HR.2.2 h0
        have := run_loadCells_list (P := P) W ad (ys.flatMap enc) (C_flat F HR hp)
        rw [hfy] at this
        simpa [Builtin.firstCells, hi'] using this
    have hmin : Nat.min ys.length xs.length = ys.length := by rw [hlen]; exact Nat.min_self _
    have hrun : (Builtin.copy_ #[dT, sT] o.type #[.slice (some ⟨g, 0, none⟩) xs.length cap, .slice S ys.length c]).run P W = .ok (goInt ys.length) (W.setRow g (ys.flatMap enc ++ ex).toArray) := by
      simp [Builtin.copy_, run_underlying hu, Builtin.lenOf, sizeOf, typeInfo, hq, hmin, hld]
      rw [hst]
      simp only [Result.andThen_ok, Sem.run_pure]
      congr 2
      rw [hcu, hfy, hlen, ← hfx]
      simp
    unfold Oper.wp
    simp [execOp, ho, resolve, invoke, builtin, hs, hx, hrun, Result.andThen]
    refine hK _ _ (h _ (Lib.hid (H.upd i hi ⟨rfl, rfl, rfl, by simp [World.setRow], fun k hk hne => setRow_other W g k _ (by simpa [slcF, Value.ownBlock, eq_comm] using hne)⟩ (hin _ (setRow_heap W g cur _ e _ hg)) (fun k hk => .inl hk))))
end
end Go.Tat
/- A variable of a loop: a new block, then a struct stored into it. -/
namespace Go.Tat
open Go.RowKit Go.Proofs.YtecgnfklfgjgaaaW.PrintWords
section
variable {P : Program} {ops : Array Oper} {rest : List Oper} {o : Oper} {a : Act} {Q : Exit → Act → World → Prop} {α : Type} {d : Kd α} {enc : α → List Value} {Fp : Nat → Prop} {w0 W : World} {L : List Asr}
theorem St.wpAlloc (hg : o.guard = none) (t : TypeId) (hop : o.op = .alloc t) (z : Value) (cs : Array Value) (hz : (P.info? t).map (·.zero) = some (some z)) (hv : z.cells = cs) (H : St Fp w0 W L)
    (h : ∀ g w', Hid (St Fp w0 w' (L ++ [blk g cs t])) → wpList P ops Q rest (a.put o.dst (.pointer (some ⟨g, 0, none⟩))) w') : wpList P ops Q (o :: rest) a W := by
  refine wpList_alloc hg t hop z cs hz hv fun g w' hB hs m hs2 hb => h g w' (Lib.hid ?_)
  exact H.add (m.below (Nat.le_refl _) (fun _ _ h => h)) hb (fun k hk => by rw [show k = g from hk, ← hs]; exact Nat.le_refl _)
theorem St.wpStoreV (F : Flat d enc) (hg : o.guard = none) (t : TypeId) (x y : Operand) (hop : o.op = .store t x y) (H : St Fp w0 W L) (i : Nat) {b e : Nat} {cur : Array Value} (hi : L[i]? = some (blk b cur e)) (hc : cur.size = d.sz) (u : α)
    (hx : a.eval x = .pointer (some ⟨b, 0, none⟩)) (hy : a.eval y = .agg (enc u).toArray) (hsz : (P.info? t).map (·.size) = some d.sz)
    (h : ∀ w', Hid (St Fp w0 w' (L.set i (blk b (enc u).toArray e))) → wpList P ops Q rest (a.put o.dst undef) w') : wpList P ops Q (o :: rest) a W := by
  refine wpList_store_new F hg t x y hop b e cur u hx hy hsz (H.get i hi) hc fun w' hR m hs => h w' (Lib.hid ?_)
  refine H.upd i hi m ?_ (fun k hk => .inl hk)
  obtain ⟨cur', h1, h2⟩ := hR.rep
  have : cur' = (enc u).toArray := by rw [← Array.toList_inj]; simpa using h2
  rw [← this]
  exact h1
/-- A block's cells, all of them, stored. -/
theorem St.wpStoreA (hg : o.guard = none) (t : TypeId) (x y : Operand) (hop : o.op = .store t x y) (H : St Fp w0 W L) (i : Nat) {b e : Nat} {cur : Array Value} (hi : L[i]? = some (blk b cur e)) (V : Array Value) (hV : V.size = cur.size) (h1 : ∀ v ∈ V.toList, v.oneCell' = true)
    (hx : a.eval x = .pointer (some ⟨b, 0, none⟩)) (hy : a.eval y = .agg V) (hsz : (P.info? t).map (·.size) = some V.size)
    (h : ∀ w', Hid (St Fp w0 w' (L.set i (blk b V e))) → wpList P ops Q rest (a.put o.dst undef) w') : wpList P ops Q (o :: rest) a W := by
  refine wpList_store_at hg t x y hop b 0 e cur (.agg V) V.toList hx hy (by simp [Value.cells]) (by rw [Array.length_toList]; exact hsz) (H.get i hi) (by rw [Array.length_toList]; omega) h1 fun w' cur' g1 g2 g3 g4 => h w' (Lib.hid ?_)
  refine H.upd i hi g3 ?_ (fun k hk => .inl hk)
  have : cur' = V := by
    rw [← Array.toList_inj, g2, List.take_zero, List.nil_append, List.drop_eq_nil_of_le (by rw [Array.length_toList, Array.length_toList]; omega), List.append_nil]
  rw [← this]
  exact g1
/-- The same at a step of a region that draws. -/
theorem St.stepStoreA {Kc : Act → World → Prop} (hw : Region.wanted o (yielded ops a.tmps) = true) (t : TypeId) (x y : Operand) (hop : o.op = .store t x y) (H : St Fp w0 W L) (i : Nat) {b e : Nat} {cur : Array Value} (hi : L[i]? = some (blk b cur e)) (V : Array Value) (hV : V.size = cur.size) (h1 : ∀ v ∈ V.toList, v.oneCell' = true)
    (hx : a.eval x = .pointer (some ⟨b, 0, none⟩)) (hy : a.eval y = .agg V) (hsz : (P.info? t).map (·.size) = some V.size)
    (h : ∀ w', Hid (St Fp w0 w' (L.set i (blk b V e))) → Kc (a.put o.dst undef) w') : if Region.wanted o (yielded ops a.tmps) = true then Oper.wp P o a W Kc Q else Kc (a.put o.dst undef) W := by
  rw [if_pos hw]
  obtain ⟨w', cur', hr, hB, hC, hM, hz⟩ := run_storeCells_at (P := P) b 0 e V.toList 0 cur W (H.get i hi) (by rw [Array.length_toList]; omega) h1
  obtain ⟨inf, hi1, hi2⟩ := Option.map_eq_some_iff.1 hsz
  unfold Oper.wp
  have : (execOp a.eval o).run P W = .ok .skip w' := by
    simp [execOp, hop, hx, hy, Instr.storeAt, Instr.sureAddr, storeVar, sizeOf, typeInfo, hi1, hi2, Value.cells, hr]
  rw [this]
  refine h w' (Lib.hid (H.upd i hi hM ?_ (fun k hk => .inl hk)))
  have e9 : cur' = V := by
    rw [← Array.toList_inj, hC, Nat.zero_add, List.take_zero, List.nil_append, List.drop_eq_nil_of_le (by rw [Array.length_toList, Array.length_toList]; omega), List.append_nil]
  rw [← e9]
  exact hB
end
end Go.Tat
/- A kind by its cells: what an element is encoded to. -/
set_option linter.unusedVariables false
set_option linter.unusedSimpArgs false
namespace Go.Tat
open Go.RowKit Go.Proofs.YtecgnfklfgjgaaaW.PrintWords
def kEnc {α : Type} (s : Nat) (enc : α → List Value) (hl : ∀ x, (enc x).length = s) (h1 : ∀ x, ∀ u ∈ enc x, u.oneCell' = true) : Kd α where
  sz := s
  E := []
  K := fun _ x cs => cs = enc x
  M := fun _ _ _ x cs => cs = enc x
  K_len := fun h => by rw [h]; exact hl _
  K_one := fun h => by rw [h]; exact h1 _
  K_below := fun _ h => h
  K_of_M := fun h => h
  M_mono := fun _ h => h
  M_bound := fun h => h
  M_move := fun _ h => h
  M_lower := fun _ h => h
theorem flEnc {α : Type} (s : Nat) (enc : α → List Value) (hl : ∀ x, (enc x).length = s) (h1 : ∀ x, ∀ u ∈ enc x, u.oneCell' = true) : Flat (kEnc s enc hl h1) enc := ⟨rfl, Iff.rfl, Iff.rfl⟩
end Go.Tat
/- A fact, among assertions on memory. -/
namespace Go.Tat
open Go.RowKit Go.Proofs.YtecgnfklfgjgaaaW.PrintWords
def pureA (p : Prop) : Asr := ⟨fun _ => False, fun _ => p, fun _ h => h.elim, fun h _ => h⟩
theorem St.pure {F : Nat → Prop} {w0 w : World} {L : List Asr} (h : St F w0 w L) (i : Nat) {p p' : Prop} (hi : L[i]? = some (pureA p)) (hp : p') : St F w0 w (L.set i (pureA p')) :=
  h.upd i hi (Mod.refl _ _) hp fun k hk => False.elim hk
theorem St.addPure {F : Nat → Prop} {w0 w : World} {L : List Asr} (h : St F w0 w L) {p : Prop} (hp : p) : St F w0 w (L ++ [pureA p]) :=
  h.add (Below.refl _ _) hp fun k hk => False.elim hk
end Go.Tat
/- A row's element stored whole, in a bundle. -/
set_option linter.unusedVariables false
set_option linter.unusedSimpArgs false
namespace Go.Tat
open Go.RowKit Go.Proofs.YtecgnfklfgjgaaaW.PrintWords
section
variable {P : Program} {ops : Array Oper} {rest : List Oper} {o : Oper} {a : Act} {Q : Exit → Act → World → Prop} {α : Type} {d : Kd α} {enc : α → List Value} {Fp : Nat → Prop} {w0 W : World} {L : List Asr}
theorem St.rowOf (F : Flat d enc) (H : St Fp w0 W L) (i : Nat) {e b n cap : Nat} {xs : List α} (hi : L[i]? = some (slc d e (.slice (some ⟨b, 0, none⟩) n cap) xs)) : n = xs.length ∧ ∃ ex, Row W b e enc xs ex ∧ ∀ ys w', ys.length = xs.length → Row w' b e enc ys ex → (slc d e (.slice (some ⟨b, 0, none⟩) n cap) ys).holds w' := by
  have hS := H.get i hi
  rcases (slc_iff F).1 hS with ⟨hv, _⟩ | ⟨g', cp, ex, hv, hR, h1, h2, h3⟩
  · injection hv with h1; cases h1
  · injection hv with a1 a2 a3
    injection a1 with a1
    injection a1 with a1
    subst a1; subst a2; subst a3
    exact ⟨rfl, ex, hR, fun ys w' hl hR' => (slc_iff F).2 (.inr ⟨_, _, ex, by rw [hl], hR', by rw [hl]; exact h1, h2, by rw [hl]; exact h3⟩)⟩
theorem St.wpRow (F : Flat d enc) (hg : o.guard = none) (t : TypeId) (x y : Operand) (hop : o.op = .store t x y) (H : St Fp w0 W L) (i : Nat) {e b n cap : Nat} {xs : List α} (hi : L[i]? = some (slc d e (.slice (some ⟨b, 0, none⟩) n cap) xs)) (j : Nat) (u : α) (hj : j < xs.length)
    (hx : a.eval x = .pointer (some ⟨b, j * d.sz, none⟩)) (hy : a.eval y = .agg (enc u).toArray) (hsz : (P.info? t).map (·.size) = some d.sz)
    (h : ∀ w', Hid (St Fp w0 w' (L.set i (slc d e (.slice (some ⟨b, 0, none⟩) n cap) (xs.set j u)))) → wpList P ops Q rest (a.put o.dst undef) w') : wpList P ops Q (o :: rest) a W := by
  obtain ⟨hn, ex, hR, hback⟩ := H.rowOf F i hi
  refine wpList_store_row_at F hg t x y hop b e j xs u ex hx hy hsz hR hj fun w' hR' m hs => h w' (Lib.hid ?_)
  exact H.upd i hi (m.mono fun k _ hk => by rw [hk]; rfl) (hback _ _ (by rw [List.length_set]) hR') (fun k hk => .inl hk)
theorem St.stepRow (F : Flat d enc) {Kc : Act → World → Prop} (hw : Region.wanted o (yielded ops a.tmps) = true) (t : TypeId) (x y : Operand) (hop : o.op = .store t x y) (H : St Fp w0 W L) (i : Nat) {e b n cap : Nat} {xs : List α} (hi : L[i]? = some (slc d e (.slice (some ⟨b, 0, none⟩) n cap) xs)) (j : Nat) (u : α) (hj : j < xs.length)
    (hx : a.eval x = .pointer (some ⟨b, j * d.sz, none⟩)) (hy : a.eval y = .agg (enc u).toArray) (hsz : (P.info? t).map (·.size) = some d.sz)
    (h : ∀ w', Hid (St Fp w0 w' (L.set i (slc d e (.slice (some ⟨b, 0, none⟩) n cap) (xs.set j u)))) → Kc (a.put o.dst undef) w') : if Region.wanted o (yielded ops a.tmps) = true then Oper.wp P o a W Kc Q else Kc (a.put o.dst undef) W := by
  rw [if_pos hw]
  obtain ⟨hn, ex, hR, hback⟩ := H.rowOf F i hi
  obtain ⟨cur, hb, hc⟩ := hR.rep
  have hl := F.len u
  have hfl := flat_len F.len xs
  have hm := Nat.mul_le_mul_right d.sz (show j + 1 ≤ xs.length from hj)
  rw [Nat.succ_mul] at hm
  have hcl : cur.size = (xs.flatMap enc).length + ex.length := by rw [← Array.length_toList, hc, List.length_append]
  obtain ⟨w', cur', hr, hB, hC, hM, hz⟩ := run_storeCells_at (P := P) b (j * d.sz) e (enc u) 0 cur W hb (by omega) (F.one u)
  obtain ⟨inf, hi1, hi2⟩ := Option.map_eq_some_iff.1 hsz
  unfold Oper.wp
  have hen : (enc u).toArray.size = d.sz := by rw [List.size_toArray]; exact hl
  have : (execOp a.eval o).run P W = .ok .skip w' := by
    simp [execOp, hop, hx, hy, Instr.storeAt, Instr.sureAddr, storeVar, sizeOf, typeInfo, hi1, hi2, Value.cells, hr, hl]
  rw [this]
  refine h w' (Lib.hid (H.upd i hi (hM.mono fun k _ hk => by rw [hk]; rfl) (hback _ _ (by rw [List.length_set]) ⟨cur', hB, ?_⟩) (fun k hk => .inl hk)))
  rw [hC, Nat.add_zero, hc, flat_set F.len xs j u hj, hl, List.take_append_of_le_length (by omega), List.drop_append_of_le_length (by omega)]
  simp [List.append_assoc]
end
end Go.Tat
/- A region that draws its order: its first operations only read (their callees may draw, or allocate: a class of worlds), what stands behind them is walked in its order. -/
set_option linter.unusedVariables false
set_option linter.unusedSimpArgs false
namespace Go.Tat
open Go
section
variable {P : Program} {ops : Array Oper} {md : Region.Mode} {C : World → Prop}
/-- f operations below n come up, in whatever order; then L. -/
def headQ (P : Program) (md : Region.Mode) (ops : Array Oper) (C : World → Prop) (n : Nat) (L : Array Bool → Act → Prop) : Nat → Array Bool → Act → Prop
  | 0, ls, a => L ls a
  | f + 1, ls, a => Region.ready md ops ls ≠ [] ∧ ∀ i ∈ Region.ready md ops ls, i < n ∧ qOp P ops C i (fun a' => headQ P md ops C n L f (ls.setIfInBounds i true) a') a
theorem headQ_any {n g : Nat} {L : Array Bool → Act → Prop} {Q : Exit → Act → World → Prop} (hL : ∀ ls a w, C w → L ls a → wpAny P md ops Q g ls a w) :
    ∀ f ls a w, C w → headQ P md ops C n L f ls a → wpAny P md ops Q (f + g) ls a w := by
  intro f
  induction f with
  | zero => intro ls a w hw h; rw [Nat.zero_add]; exact hL _ _ _ hw h
  | succ f ih =>
    intro ls a w hw h
    rw [Nat.add_right_comm]
    exact ⟨fun e => absurd e h.1, fun i hi => wpOp_of_qOp hw (fun a' w' hw' hh => ih _ a' w' hw' hh) (h.2 i hi).2⟩
/-- An operation that may come up may be taken first. -/
theorem headQ_take {n i : Nat} {oi : Oper} {v : Value} {L : Array Bool → Act → Prop} (hi : ops[i]? = some oi) (hsel : ∀ (j : Nat) (o : Oper) cs b, ops[j]? = some o → o.op ≠ .select cs b)
    (hs : Region.sinkB md ops n = true) (hc : Region.chainB md ops n = true) (hn : n < ops.size) (hin : i < n) (hend : ∀ ls a, L ls a → ∀ j ∈ Region.ready md ops ls, n ≤ j) :
    ∀ f ls a, HeadInv md ops n ls →
      (∀ j oj, ops[j]? = some oj → j ≠ i → ls.getD j true = false → (∀ e ∈ oj.after, Region.binds md e = true → e.on ≠ i) → oi.apart ops oj = true) →
      i ∈ Region.ready md ops ls → YieldsIn P ops C oi v a → headQ P md ops C n L f (ls.setIfInBounds i true) (a.put oi.dst v) → headQ P md ops C n L (f + 1) ls a := by
  intro f
  induction f with
  | zero =>
    intro ls a inv hap hr hy H
    have hun := (mem_ready.1 hr).1
    refine ⟨fun e => absurd (e ▸ hr) (by simp), fun j hj => ?_⟩
    have hjn : j < n := Nat.lt_of_not_le fun hle => tail_waits hs hc hn inv _ i rfl hin hun j hle hj
    refine ⟨hjn, ?_⟩
    by_cases e : j = i
    · rw [e]; exact hy.qOp hi H
    · exact absurd (hend _ _ H j (ready_mono hj e)) (by omega)
  | succ f ih =>
    intro ls a inv hap hr hy H
    have hun := (mem_ready.1 hr).1
    refine ⟨fun e => absurd (e ▸ hr) (by simp), fun j hj => ?_⟩
    have hjn : j < n := Nat.lt_of_not_le fun hle => tail_waits hs hc hn inv _ i rfl hin hun j hle hj
    refine ⟨hjn, ?_⟩
    by_cases e : j = i
    · rw [e]; exact hy.qOp hi H
    · obtain ⟨hjun, oj, hoj, hall⟩ := mem_ready.1 hj
      have hnot : ∀ e ∈ oj.after, Region.binds md e = true → e.on ≠ i := fun x hx hb hxi => by
        have h3 := hall x hx hb
        rw [hxi, getD_both hun] at h3
        exact absurd h3 (by simp)
      have hap' := hap j oj hoj e hjun hnot
      have hput := qOp_put hoj hap' (fun cs b => hsel i oi cs b hi) (fun cs b => hsel j oj cs b hoj) hy (H.2 j (ready_mono hj e)).2
      refine qOp_mono (fun a' h3 => ?_) hput
      refine ih _ a' (inv.set hj hjn) (fun k ok hk hki hkun hno => hap k ok hk hki ?_ hno) (ready_mono hr (fun h => e h.symm)) h3.1 ?_
      · by_cases hjk : j = k
        · rw [← hjk]; exact hjun
        · rwa [getD_set_ne true hjk] at hkun
      · rw [Array.setIfInBounds_comm _ _ e]
        exact h3.2
theorem headQ_lex {n g : Nat} {R : Act → Prop} (hsel : Region.noSelect ops = true) (hs : Region.sinkB md ops n = true) (hc : Region.chainB md ops n = true) (hn : n < ops.size) :
    ∀ (l : List Oper) (k : Nat) (ls : Array Bool) (a : Act), (∀ j, j < l.length → l[j]? = ops[k + j]?) → k + l.length = n → HeadInv md ops n ls → Region.lexHead md ops g l.length k ls = true →
      wpQuiet P ops C R l a → headQ P md ops C n (fun ls' a' => Region.seqB md ops g n ls' = true ∧ R a') l.length ls a := by
  intro l
  induction l with
  | nil =>
    intro k ls a _ hk _ hB h
    have hk' : k = n := by simpa using hk
    rw [hk'] at hB
    exact ⟨by simpa [Region.lexHead] using hB, h⟩
  | cons o l ih =>
    intro k ls a hl hk inv hB h
    have h0 : ops[k]? = some o := by have := hl 0 (by simp); simpa using this.symm
    simp only [List.length_cons, Region.lexHead, Bool.and_eq_true] at hB
    have hkn : k < n := by rw [List.length_cons] at hk; omega
    have hr : k ∈ Region.ready md ops ls := by simpa using hB.1.1
    have hq : qOp P ops C k (wpQuiet P ops C R l) a := by unfold qOp; simp only [h0]; exact h
    obtain ⟨v, hy, hK⟩ := yieldsIn_of_qOp h0 hq
    refine headQ_take h0 (Region.noSelect_spec hsel) hs hc hn hkn (fun ls' a' hL => seqB_ready hL.1) l.length ls a inv (Region.free_spec h0 hB.1.2) hr hy ?_
    refine ih (k + 1) _ _ (fun j hj => ?_) (by rw [List.length_cons] at hk; omega) (inv.set hr hkn) hB.2 hK
    have h5 := hl (j + 1) (by rw [List.length_cons]; omega)
    rw [List.getElem?_cons_succ] at h5
    rw [h5]; congr 1; omega
/-- The first n operations quiet in C; the others in their order. -/
theorem wp_region_qtail {id : Nat} {Q : Exit → Act → World → Prop} {a : Act} {w : World} {l : List Oper} (C : World → Prop) (n : Nat) (hm : P.follows .mixedOrders = true) (hB : Region.lexTailB .any l.toArray n = true) (hC : C w.drew)
    (h : wpQuiet P l.toArray C (fun a' => ∀ w', C w' → wpList P l.toArray Q (l.drop n) a' w') (l.take n) a) : (Code.region id l.toArray true).wp P Q a w := by
  simp only [Region.lexTailB, Bool.and_eq_true, decide_eq_true_eq] at hB
  obtain ⟨⟨⟨⟨hsel, hn⟩, hs⟩, hc⟩, hlex⟩ := hB
  have hnl : n < l.length := by simpa using hn
  have htl : (l.take n).length = n := by simp; omega
  have hdl : (l.drop n).length = l.toArray.size - n := by simp
  have inv : HeadInv .any l.toArray n (Array.replicate l.toArray.size false) :=
    ⟨by simp, fun j oj _ hj => by rw [getD_replicate_false] at hj; exact absurd hj (by simp), fun t _ ht => getD_in (by simpa using ht) (getD_replicate_false _ _)⟩
  have H := headQ_lex (P := P) (C := C) (md := .any) (g := l.toArray.size - n) hsel hs hc hn (l.take n) 0 _ a (fun j hj => by
    have hj' : j < n := by rw [htl] at hj; exact hj
    simp [hj']) (by rw [htl]; omega) inv (by rw [htl]; exact hlex) h
  have H2 := headQ_any (Q := Q) (g := l.toArray.size - n) (fun ls a' w' hw' hL => by
    have := wpAny_of_seq (md := .any) (Q' := Q) (l.drop n) n ls a' w' (fun j => by simp [List.getElem?_drop]) (by rw [hdl]; exact hL.1) (hL.2 w' hw')
    rwa [hdl] at this) _ _ _ w.drew hC H
  rw [htl, show n + (l.toArray.size - n) = l.toArray.size by omega] at H2
  exact wp_region_any hm H2
theorem quiet_mk {o : Oper} {a : Act} {K : Act → Prop} {v : Value} (h : ∀ w, C w → o.quietAt P a C w v) (hn : K (a.put o.dst v)) : o.quiet P a C K := ⟨v, h, hn⟩
/-- All operations quiet in C. -/
theorem wp_region_quietC {id : Nat} {Q : Exit → Act → World → Prop} {a : Act} {w : World} {l : List Oper} (C : World → Prop) (hm : P.follows .mixedOrders = true) (hB : Region.lexB .any l.toArray = true) (hC : C w.drew)
    (h : wpQuiet P l.toArray C (fun a' => ∀ w', C w' → Q .normal a' w') l a) : (Code.region id l.toArray true).wp P Q a w :=
  wp_region_quiet (C := C) hm hB hC (by simpa using h)
theorem wp_region_qtail_drewN {id : Nat} {Q : Exit → Act → World → Prop} {a : Act} {w : World} {l : List Oper} (n : Nat) (hm : P.follows .mixedOrders = true) (hB : Region.lexTailB .any l.toArray n = true)
    (h : wpQuiet P l.toArray (fun w' => ∃ n, w' = w.drewN n) (fun a' => ∀ w', (∃ n, w' = w.drewN n) → wpList P l.toArray Q (l.drop n) a' w') (l.take n) a) : (Code.region id l.toArray true).wp P Q a w :=
  wp_region_qtail (fun w' => ∃ n, w' = w.drewN n) n hm hB ⟨1, rfl⟩ h
end
end Go.Tat
/- make of a full row, as one step of a region that draws. -/
set_option linter.unusedVariables false
set_option linter.unusedSimpArgs false
namespace Go.Tat
open Go.RowKit Go.Proofs.YtecgnfklfgjgaaaW.PrintWords
section
variable {α : Type} {d : Kd α} {enc : α → List Value} {P : Program} {ops : Array Oper} {o : Oper} {a : Act} {Q : Exit → Act → World → Prop} {Fp : Nat → Prop} {w0 W : World} {L : List Asr}
theorem St.stepMake (F : Flat d enc) {Kc : Act → World → Prop} (hw : Region.wanted o (yielded ops a.tmps) = true) (l c : Operand) (t e : TypeId) (hop : o.op = Op.makeSlice t l c) (ht : P.underlying t = some (.slice e)) (z : α) (zv : Value) (bytes : Nat)
    (hinfo : (P.info? e).map (fun i => (i.zero, i.size, i.bytes)) = some (some zv, d.sz, bytes)) (hzv : zv.cells.toList = enc z) (n : Nat) (hl : a.eval l = .int .i64 (n : Int)) (hc : a.eval c = .int .i64 (n : Int)) (hb : bytes * n ≤ 281474976710656) (hn : n ≤ maxLen)
    (H : St Fp w0 W L) (h : ∀ (T : List α) b w1, Hid (T = List.replicate n z ∧ T.length = n ∧ St Fp w0 w1 (L ++ [slc d e (.slice (some ⟨b, 0, none⟩) n n) T])) → Kc (a.put o.dst (.slice (some ⟨b, 0, none⟩) n n)) w1) :
    if Region.wanted o (yielded ops a.tmps) = true then Oper.wp P o a W Kc Q else Kc (a.put o.dst undef) W := by
  rw [if_pos hw]
  cases hq : P.info? e with
  | none => rw [hq] at hinfo; cases hinfo
  | some i =>
    rw [hq] at hinfo
    injection hinfo with hinfo
    injection hinfo with h1 h2
    injection h2 with h2 h3
    have hn' : (n : Int) ≤ 9223372036854775807 := by simp [maxLen] at hn; omega
    have hb' : (i.bytes : Int) * (n : Int) ≤ 281474976710656 := by
      have h : ((i.bytes * n : Nat) : Int) ≤ 281474976710656 := by rw [h3]; omega
      rwa [Int.natCast_mul] at h
    have hr := run_make (P := P) W t e i zv ht hq h1 .i64 .i64 n n (by omega) (Int.le_refl _) hb' hn'
    simp only [Int.toNat_natCast] at hr
    unfold Oper.wp
    simp [execOp, hop, hl, hc, hr, Result.andThen]
    refine h (List.replicate n z) W.heap.size _ (Lib.hid ⟨rfl, List.length_replicate, ?_⟩)
    refine H.add ((Below.refl _ _).alloc (Nat.le_refl _) _) ((slc_iff F).2 (.inr ⟨W.heap.size, n, [], by rw [List.length_replicate], ⟨_, heap_alloc_new W _, ?_⟩, by simp, hn, by simp⟩)) (fun k hk => ?_)
    · rw [h2, made_rep F z zv.cells hzv, List.append_nil]
    · have e : W.heap.size = k := by simpa [slcF, Value.ownBlock] using hk
      omega
end
end Go.Tat
