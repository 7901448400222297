/- Small words on worlds: which blocks a call may have changed, and what a block holds. -/
import Derived.WalkKit
import Derived.WalkSpells
import Derived.Deep.Draws
namespace Go.Tat
open Go.RowKit
/-- Of the blocks that were there only those of S may have changed. -/
structure Mod (S : Nat → Prop) (w w' : World) : Prop where
  os : w'.os = w.os
  tape : w'.tape = w.tape
  output : w'.output = w.output
  size : w.heap.size ≤ w'.heap.size
  block : ∀ k, k < w.heap.size → ¬ S k → w'.heap[k]? = w.heap[k]?
theorem Mod.refl (S : Nat → Prop) (w : World) : Mod S w w := ⟨rfl, rfl, rfl, Nat.le_refl _, fun _ _ _ => rfl⟩
theorem Mod.mono {S S' : Nat → Prop} {w w' : World} (h : Mod S w w') (hS : ∀ k, k < w.heap.size → S k → S' k) : Mod S' w w' :=
  ⟨h.os, h.tape, h.output, h.size, fun k hk hn => h.block k hk (fun hs => hn (hS k hk hs))⟩
theorem Mod.trans {S : Nat → Prop} {a b c : World} (h : Mod S a b) (k : Mod S b c) : Mod S a c :=
  ⟨k.os.trans h.os, k.tape.trans h.tape, k.output.trans h.output, Nat.le_trans h.size k.size, fun i hi hn => (k.block i (Nat.lt_of_lt_of_le hi h.size) hn).trans (h.block i hi hn)⟩
/-- The later step may also change what is new. -/
theorem Mod.trans' {S S' : Nat → Prop} {a b c : World} (h : Mod S a b) (k : Mod S' b c) (hS : ∀ i, i < a.heap.size → S' i → S i) : Mod S a c :=
  ⟨k.os.trans h.os, k.tape.trans h.tape, k.output.trans h.output, Nat.le_trans h.size k.size, fun i hi hn => (k.block i (Nat.lt_of_lt_of_le hi h.size) (fun hs => hn (hS i hi hs))).trans (h.block i hi hn)⟩
theorem Mod.alloc (S : Nat → Prop) (w : World) (o : Obj) : Mod S w (w.alloc o) :=
  ⟨rfl, rfl, rfl, by simp, fun k hk _ => Below.heap_alloc _ _ _ hk⟩
theorem Mod.drew (S : Nat → Prop) (w : World) : Mod S w w.drew := ⟨rfl, rfl, rfl, Nat.le_refl _, fun _ _ _ => rfl⟩
theorem Mod.drewN (S : Nat → Prop) (w : World) (n : Nat) : Mod S w (w.drewN n) := ⟨rfl, rfl, rfl, Nat.le_refl _, fun _ _ _ => rfl⟩
theorem Mod.setCell {S : Nat → Prop} {w : World} {p : Addr} (hp : S p.block) (u : Value) : Mod S w (w.setCell p u) :=
  ⟨rfl, rfl, rfl, by simp, fun k _ hn => Below.heap_setCell _ _ _ _ (fun e => hn (e ▸ hp))⟩
theorem Mod.set {S : Nat → Prop} {a w : World} (m : Mod S a w) {p : Addr} (hp : S p.block) (u : Value) : Mod S a (w.setCell p u) := m.trans (Mod.setCell hp u)
theorem Mod.dr {S : Nat → Prop} {a w : World} (m : Mod S a w) : Mod S a w.drew := m.trans (Mod.drew S w)
theorem Mod.drN {S : Nat → Prop} {a w : World} (m : Mod S a w) (n : Nat) : Mod S a (w.drewN n) := m.trans (Mod.drewN S w n)
theorem Mod.al {S : Nat → Prop} {a w : World} (m : Mod S a w) (o : Obj) : Mod S a (w.alloc o) := m.trans (Mod.alloc S w o)
/-- A store into a block that is new. -/
theorem Mod.setNew {S : Nat → Prop} {a w : World} (m : Mod S a w) {p : Addr} (hp : a.heap.size ≤ p.block) (u : Value) : Mod S a (w.setCell p u) :=
  m.trans' (Mod.setCell (S := fun k => k = p.block) rfl u) (fun i hi h => by omega)
theorem Mod.of_below {w w' : World} {S : Nat → Prop} (h : Below w.heap.size w w') : Mod S w w' := ⟨h.os, h.tape, h.output, h.size, fun k hk _ => h.block k hk⟩
theorem Mod.below {w w' : World} {S : Nat → Prop} (h : Mod S w w') {B : Nat} (hB : B ≤ w.heap.size) (hS : ∀ k, k < B → ¬ S k) : Below B w w' :=
  ⟨h.os, h.tape, h.output, h.size, fun k hk => h.block k (by omega) (hS k hk)⟩
theorem Mod.of_grown {w w' : World} {S : Nat → Prop} {row : Option Nat} (h : w.grownBy w' row) (hS : ∀ k, k < w.heap.size → row = some k → S k) : Mod S w w' :=
  ⟨h.os, h.tape, h.output, h.size, fun k hk hn => h.block k hk (fun e => hn (hS k hk e.symm))⟩
/-- What a block of cells holds, as a function; it is not frozen. -/
structure Blk (w : World) (b : Nat) (f : Nat → Option Value) : Prop where
  cell : ∀ j, w.cell? ⟨b, j, none⟩ = f j
  fz : ∀ j, w.frozen? ⟨b, j, none⟩ = false
  lt : b < w.heap.size
def upd (f : Nat → Option Value) (k : Nat) (v : Value) : Nat → Option Value := fun j => if j = k then some v else f j
@[simp] theorem upd_same (f : Nat → Option Value) (k : Nat) (v : Value) : upd f k v k = some v := by simp [upd]
theorem upd_ne (f : Nat → Option Value) (k : Nat) (v : Value) {j : Nat} (h : j ≠ k) : upd f k v j = f j := by simp [upd, h]
theorem Blk.mod {w w' : World} {b : Nat} {f : Nat → Option Value} {S : Nat → Prop} (h : Blk w b f) (m : Mod S w w') (hn : ¬ S b) : Blk w' b f :=
  have hb := m.block b h.lt hn
  ⟨fun j => (World.cell?_of_block (a := ⟨b, j, none⟩) hb).trans (h.cell j), fun j => (World.frozen?_of_block (a := ⟨b, j, none⟩) hb).trans (h.fz j), Nat.lt_of_lt_of_le h.lt m.size⟩
theorem Blk.alloc {w : World} {b : Nat} {f : Nat → Option Value} (h : Blk w b f) (o : Obj) : Blk (w.alloc o) b f := h.mod (Mod.alloc (fun _ => False) w o) id
theorem Blk.drew {w : World} {b : Nat} {f : Nat → Option Value} (h : Blk w b f) : Blk w.drew b f := ⟨h.cell, h.fz, h.lt⟩
theorem Blk.drewN {w : World} {b : Nat} {f : Nat → Option Value} (h : Blk w b f) (n : Nat) : Blk (w.drewN n) b f := ⟨h.cell, h.fz, h.lt⟩
theorem Blk.set {w : World} {b : Nat} {f : Nat → Option Value} (h : Blk w b f) {k : Nat} {u : Value} (hk : f k = some u) (v : Value) : Blk (w.setCell ⟨b, k, none⟩ v) b (upd f k v) := by
  refine ⟨fun j => ?_, fun j => ?_, by simpa using h.lt⟩
  · by_cases e : j = k
    · subst e; rw [upd_same]; exact World.cell?_setCell_same _ _ _ ((h.cell j).trans hk)
    · rw [upd_ne _ _ _ e, World.cell?_setCell_other w ⟨b, k, none⟩ ⟨b, j, none⟩ v (fun h => e (by injection h with h1 h2; exact h2.symm))]; exact h.cell j
  · rw [World.frozen?_setCell]; exact h.fz j
theorem Blk.setOther {w : World} {b : Nat} {f : Nat → Option Value} (h : Blk w b f) {p : Addr} (hp : p.block ≠ b) (v : Value) : Blk (w.setCell p v) b f :=
  h.mod (Mod.setCell (S := fun k => k = p.block) rfl v) (Ne.symm hp)
theorem Blk.new (w : World) (cs : Array Value) (t : TypeId) : Blk (w.alloc (.cells cs t)) w.heap.size (fun j => cs[j]?) :=
  ⟨fun j => World.cell?_alloc_new _ _ _ _, fun j => World.frozen?_alloc_new _ _ _ _, by simp⟩
theorem Blk.of_heap {w : World} {b : Nat} {cs : Array Value} {t : TypeId} (h : w.heap[b]? = some (.cells cs t (0, 0))) : Blk w b (fun j => cs[j]?) := by
  refine ⟨fun j => ?_, fun j => ?_, ?_⟩
  · simp [World.cell?, h]
  · simp [World.frozen?, h]
  · rcases Nat.lt_or_ge b w.heap.size with h' | h'
    · exact h'
    · simp [Array.getElem?_eq_none h'] at h
/-! ### What a row of structs holds -/
/-- Some cells of a block set anew. -/
def updL (f : Nat → Option Value) (k : Nat) (vs : List Value) : Nat → Option Value := fun j => if k ≤ j ∧ j < k + vs.length then vs[j - k]? else f j
theorem updL_nil (f : Nat → Option Value) (k : Nat) : updL f k [] = f := by
  funext j; unfold updL; rw [if_neg (by simp only [List.length_nil]; omega)]
theorem updL_cons (f : Nat → Option Value) (k : Nat) (v : Value) (vs : List Value) : updL f k (v :: vs) = updL (upd f k v) (k + 1) vs := by
  funext j; unfold updL upd
  by_cases h : j = k
  · subst h; rw [if_pos (by simp), if_neg (by omega), if_pos rfl]; simp
  · by_cases h2 : k + 1 ≤ j ∧ j < k + 1 + vs.length
    · rw [if_pos h2, if_pos (by simp only [List.length_cons]; omega), show j - k = (j - (k + 1)) + 1 by omega]; simp
    · rw [if_neg h2, if_neg (by simp only [List.length_cons]; omega), if_neg h]
theorem run_storeCells_blk {P : Program} (b k : Nat) : ∀ (vs : List Value) (i : Nat) (f : Nat → Option Value) (w : World), Blk w b f → (∀ j, j < vs.length → (f (k + i + j)).isSome = true) → (∀ v ∈ vs, v.oneCell' = true) →
    ∃ w', (storeCells ⟨b, k, none⟩ vs i).run P w = .ok () w' ∧ Blk w' b (updL f (k + i) vs) ∧ Mod (· = b) w w' ∧ w'.heap.size = w.heap.size
  | [], i, f, w, hb, _, _ => ⟨w, by simp [storeCells], by rw [updL_nil]; exact hb, Mod.refl _ _, rfl⟩
  | v :: vs, i, f, w, hb, hs, h1 => by
    obtain ⟨u, hu⟩ := Option.isSome_iff_exists.1 (by simpa using hs 0 (by simp))
    have hadd : (⟨b, k, none⟩ : Addr).add i = ⟨b, k + i, none⟩ := by unfold Addr.add; split <;> simp_all
    have hst : (store ((⟨b, k, none⟩ : Addr).add i) v).run P w = .ok () (w.setCell ⟨b, k + i, none⟩ v) := by
      rw [hadd, run_store P w _ v _ (h1 v (by simp)), hb.cell, hu]; simp [hb.fz]
    obtain ⟨w', hr, hB, hM, hz⟩ := run_storeCells_blk (P := P) b k vs (i + 1) (upd f (k + i) v) (w.setCell ⟨b, k + i, none⟩ v) (hb.set hu v)
      (fun j hj => by
        unfold upd; rw [if_neg (by omega)]; have := hs (j + 1) (by simp; omega); rwa [show k + i + (j + 1) = k + (i + 1) + j by omega] at this)
      (fun x hx => h1 x (by simp [hx]))
    refine ⟨w', ?_, ?_, (Mod.setCell (S := (· = b)) rfl v).trans hM, by rw [hz]; simp⟩
    · simp only [storeCells, Sem.run_bind, hst, Result.andThen_ok, hr]
    · rw [updL_cons]; exact hB
theorem wpList_store_blk {P : Program} {w : World} {ops : Array Oper} {rest : List Oper} {o : Oper} {a : Act} {Q : Exit → Act → World → Prop} (hg : o.guard = none) (t : TypeId) (x y : Operand) (hop : o.op = .store t x y)
    (b k : Nat) (f : Nat → Option Value) (v : Value) (vs : List Value) (hx : a.eval x = .pointer (some ⟨b, k, none⟩)) (hy : a.eval y = v) (hv : v.cells.toList = vs) (hsz : (P.info? t).map (·.size) = some vs.length) (hb : Blk w b f)
    (hs : ∀ j, j < vs.length → (f (k + j)).isSome = true) (h1 : ∀ v ∈ vs, v.oneCell' = true)
    (h : ∀ w', Blk w' b (updL f k vs) → Mod (· = b) w w' → w'.heap.size = w.heap.size → wpList P ops Q rest (a.put o.dst undef) w') : wpList P ops Q (o :: rest) a w := by
  refine wpList_plain hg fun K hK => ?_
  obtain ⟨w', hr, hB, hM, hz⟩ := run_storeCells_blk (P := P) b k vs 0 f w hb (by simpa using hs) h1
  obtain ⟨i, hi, hi2⟩ := Option.map_eq_some_iff.1 hsz
  have hsize : v.cells.size = i.size := by rw [hi2, ← hv]; simp
  unfold Oper.wp
  have : (execOp a.eval o).run P w = .ok .skip w' := by
    simp [execOp, hop, hx, hy, Instr.storeAt, Instr.sureAddr, storeVar, sizeOf, typeInfo, hi, hsize, hv, hr]
  rw [this]
  exact hK _ _ (h w' (by simpa using hB) hM hz)
/-- A store of one cell. -/
theorem wpList_store1 {P : Program} {w : World} {ops : Array Oper} {rest : List Oper} {o : Oper} {a : Act} {Q : Exit → Act → World → Prop} (hg : o.guard = none) (t : TypeId) (x y : Operand) (hop : o.op = .store t x y)
    (b k : Nat) (f : Nat → Option Value) (v u : Value) (hx : a.eval x = .pointer (some ⟨b, k, none⟩)) (hy : a.eval y = v) (hv : v.cells = #[v]) (hsz : (P.info? t).map (·.size) = some 1) (hb : Blk w b f)
    (hu : f k = some u) (h1 : v.oneCell' = true)
    (h : ∀ w', Blk w' b (upd f k v) → Mod (· = b) w w' → w'.heap.size = w.heap.size → wpList P ops Q rest (a.put o.dst undef) w') : wpList P ops Q (o :: rest) a w :=
  wpList_store_blk hg t x y hop b k f v [v] hx hy (by rw [hv]) hsz hb (fun j hj => by
      have : j = 0 := by simpa using hj
      subst this; rw [Nat.add_zero, hu]; rfl) (fun v' hv' => by rw [List.mem_singleton.1 hv']; exact h1)
    (fun w' hB hM hz => h w' (by rw [updL_cons, updL_nil] at hB; exact hB) hM hz)
/-- A value is laid into a block of its own. -/
theorem wpList_box {P : Program} {w : World} {ops : Array Oper} {rest : List Oper} {o : Oper} {a : Act} {Q : Exit → Act → World → Prop} (hg : o.guard = none) (t : TypeId) (x : Operand) (hop : o.op = .box t x)
    (v : Value) (cs : Array Value) (hx : a.eval x = v) (hv : v.cells = cs)
    (h : ∀ g w', Blk w' g (fun j => cs[j]?) → w.heap.size = g → Mod (fun _ => False) w w' → w'.heap.size = g + 1 → w'.heap[g]? = some (.cells cs t (0, 0)) → wpList P ops Q rest (a.put o.dst (.pointer (some ⟨g, 0, none⟩))) w') : wpList P ops Q (o :: rest) a w := by
  refine wpList_plain hg fun K hK => ?_
  unfold Oper.wp
  have : (execOp a.eval o).run P w = .ok (.value (.pointer (some ⟨w.heap.size, 0, none⟩))) (w.alloc (.cells cs t)) := by
    simp [execOp, hop, hx, Instr.box, newVar, newRow, hv]
  rw [this]
  exact hK _ _ (h _ _ (Blk.new w cs t) rfl (Mod.alloc _ _ _) (by simp) (heap_alloc_new w _))
/-- A zero value is laid into a block of its own. -/
theorem wpList_alloc {P : Program} {w : World} {ops : Array Oper} {rest : List Oper} {o : Oper} {a : Act} {Q : Exit → Act → World → Prop} (hg : o.guard = none) (t : TypeId) (hop : o.op = .alloc t)
    (z : Value) (cs : Array Value) (hz : (P.info? t).map (·.zero) = some (some z)) (hv : z.cells = cs)
    (h : ∀ g w', Blk w' g (fun j => cs[j]?) → w.heap.size = g → Mod (fun _ => False) w w' → w'.heap.size = g + 1 → w'.heap[g]? = some (.cells cs t (0, 0)) → wpList P ops Q rest (a.put o.dst (.pointer (some ⟨g, 0, none⟩))) w') : wpList P ops Q (o :: rest) a w := by
  refine wpList_plain hg fun K hK => ?_
  obtain ⟨i, hi, hi2⟩ := Option.map_eq_some_iff.1 hz
  unfold Oper.wp
  have : (execOp a.eval o).run P w = .ok (.value (.pointer (some ⟨w.heap.size, 0, none⟩))) (w.alloc (.cells cs t)) := by
    simp [execOp, hop, Instr.alloc, zeroValue, typeInfo, hi, hi2, newVar, newRow, hv]
  rw [this]
  exact hK _ _ (h _ _ (Blk.new w cs t) rfl (Mod.alloc _ _ _) (by simp) (heap_alloc_new w _))
/-- Rows of structs (or numbers), with what stands behind them. -/
def rows {α : Type} (enc : α → List Value) (xs : List α) (ex : List Value) : Nat → Option Value := fun j => (xs.flatMap enc ++ ex)[j]?
theorem flat_len {α : Type} {enc : α → List Value} {s : Nat} (hs : ∀ x, (enc x).length = s) (xs : List α) : (xs.flatMap enc).length = xs.length * s := by
  induction xs with
  | nil => simp
  | cons x xs ih => simp [hs, ih, Nat.succ_mul, Nat.add_comm]
theorem flat_get {α : Type} {enc : α → List Value} {s : Nat} (hs : ∀ x, (enc x).length = s) : ∀ (xs : List α) (i c : Nat) (x : α), xs[i]? = some x → c < s → (xs.flatMap enc)[i * s + c]? = (enc x)[c]?
  | [], i, c, x, h, _ => by simp at h
  | y :: xs, 0, c, x, h, hc => by
    simp at h; subst h; simp only [List.flatMap_cons, Nat.zero_mul, Nat.zero_add]
    rw [List.getElem?_append_left (by rw [hs]; exact hc)]
  | y :: xs, i + 1, c, x, h, hc => by
    simp only [List.flatMap_cons]
    rw [List.getElem?_append_right (by rw [hs, Nat.succ_mul]; omega), hs, show (i + 1) * s + c - s = i * s + c by rw [Nat.succ_mul]; omega]
    exact flat_get hs xs i c x (by simpa using h) hc
theorem rows_get {α : Type} {enc : α → List Value} {s : Nat} (hs : ∀ x, (enc x).length = s) {xs : List α} {ex : List Value} {i c : Nat} {x : α} (h : xs[i]? = some x) (hc : c < s) : rows enc xs ex (i * s + c) = (enc x)[c]? := by
  unfold rows
  have hl := flat_len hs xs
  have hi : i < xs.length := (List.getElem?_eq_some_iff.1 h).1
  have : i * s + c < xs.length * s := by
    have := Nat.mul_le_mul_right s (show i + 1 ≤ xs.length by omega)
    rw [Nat.succ_mul] at this; omega
  rw [List.getElem?_append_left (by omega)]
  exact flat_get hs xs i c x h hc
theorem rows_updL {α : Type} {enc : α → List Value} {s : Nat} (hs : ∀ x, (enc x).length = s) {xs : List α} {ex : List Value} {i c : Nat} {x y : α} {vs : List Value} (h : xs[i]? = some x) (hc : c + vs.length ≤ s)
    (hy : enc y = (enc x).take c ++ vs ++ (enc x).drop (c + vs.length)) : updL (rows enc xs ex) (i * s + c) vs = rows enc (xs.set i y) ex := by
  funext j
  have hi : i < xs.length := (List.getElem?_eq_some_iff.1 h).1
  have hl := flat_len hs xs
  have hl2 := flat_len hs (xs.set i y)
  have hm := Nat.mul_le_mul_right s (show i + 1 ≤ xs.length by omega)
  rw [Nat.succ_mul] at hm
  rcases Nat.eq_zero_or_pos s with h0 | hp
  · subst h0
    have : vs = [] := List.eq_nil_of_length_eq_zero (by omega)
    subst this
    rw [updL_nil]; unfold rows
    rw [List.eq_nil_of_length_eq_zero (l := xs.flatMap enc) (by rw [hl]; simp), List.eq_nil_of_length_eq_zero (l := (xs.set i y).flatMap enc) (by rw [hl2]; simp)]
  by_cases hj : j < xs.length * s
  · have hq : j / s < xs.length := Nat.div_lt_of_lt_mul (by rw [Nat.mul_comm]; exact hj)
    have hr : j % s < s := Nat.mod_lt _ hp
    have ej : j = (j / s) * s + j % s := by rw [Nat.mul_comm]; exact (Nat.div_add_mod j s).symm
    have g2 : rows enc (xs.set i y) ex j = (enc ((xs.set i y)[j / s]'(by simpa using hq)))[j % s]? := by
      have := rows_get hs (ex := ex) (xs := xs.set i y) (i := j / s) (c := j % s) (List.getElem?_eq_getElem (by simpa using hq)) hr
      rw [← ej] at this; exact this
    have g1 : rows enc xs ex j = (enc xs[j / s])[j % s]? := by
      have := rows_get hs (ex := ex) (xs := xs) (i := j / s) (c := j % s) (List.getElem?_eq_getElem hq) hr
      rw [← ej] at this; exact this
    rw [g2]
    unfold updL
    have hx : xs[i] = x := by rw [List.getElem?_eq_getElem hi] at h; exact Option.some.inj h
    by_cases hji : j / s = i
    · have eset : (xs.set i y)[j / s]'(by simpa using hq) = y := by simp [hji]
      have eold : xs[j / s] = x := by simp [hji, hx]
      rw [eset, hy, g1, eold]
      have e3 : j = i * s + j % s := by rw [← hji]; exact ej
      have hlx := hs x
      split
      · rename_i hc2
        rw [List.append_assoc, List.getElem?_append_right (by simp; omega), List.getElem?_append_left (by simp; omega)]
        congr 1; simp; omega
      · rename_i hc2
        by_cases h5 : j % s < c
        · rw [List.append_assoc, List.getElem?_append_left (by simp; omega), List.getElem?_take, if_pos h5]
        · rw [List.getElem?_append_right (by simp; omega), List.getElem?_drop]
          congr 1; simp; omega
    · have eset : (xs.set i y)[j / s]'(by simpa using hq) = xs[j / s] := by
        rw [List.getElem_set_ne (Ne.symm hji)]
      rw [eset]
      have hne : ¬ (i * s + c ≤ j ∧ j < i * s + c + vs.length) := by
        intro hh
        apply hji
        have h1 : j / s ≥ i := by rw [ge_iff_le, Nat.le_div_iff_mul_le hp]; omega
        have h2 : j / s < i + 1 := by rw [Nat.div_lt_iff_lt_mul hp, Nat.succ_mul]; omega
        omega
      rw [if_neg hne]
      exact g1
  · unfold updL
    rw [if_neg (by omega)]
    unfold rows
    rw [List.length_set] at hl2
    rw [List.getElem?_append_right (by omega), List.getElem?_append_right (by omega), hl, hl2]
end Go.Tat
