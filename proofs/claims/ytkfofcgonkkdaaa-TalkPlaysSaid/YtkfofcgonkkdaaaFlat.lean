/- Rows of flat structs: read, written, cut. -/
import Derived.Test.YtkfofcgonkkdaaaSL
import Derived.Laws.Rows
namespace Go.Tat
open Go.RowKit Go.Proofs.YtkfofcgonkkdaaaW.PrintWords
theorem reps_flat {α : Type} {enc : α → List Value} {s : Nat} (hs : ∀ x, (enc x).length = s) : ∀ (ps : List α) (cs : List Value), Reps (fun p c => c = enc p) s ps cs ↔ cs = ps.flatMap enc
  | [], cs => by
    constructor
    · intro h; have := h.1; simp at this; simpa using this
    · rintro rfl; exact Reps.none _ _
  | p :: ps, cs => by
    constructor
    · intro h
      have hl := h.1
      rw [List.length_cons, Nat.succ_mul] at hl
      have h0 := h.2 0 p rfl
      simp only [Nat.zero_mul, List.drop_zero] at h0
      have ih := (reps_flat hs ps (cs.drop s)).1 ⟨by rw [List.length_drop]; omega, fun j q hq => by
        have := h.2 (j + 1) q (by simpa using hq)
        rw [List.drop_drop]
        rwa [Nat.succ_mul, Nat.add_comm] at this⟩
      rw [List.flatMap_cons, ← h0, ← ih, List.take_append_drop]
    · rintro rfl
      refine ⟨by rw [flat_len hs], fun j q hq => ?_⟩
      have hj := (List.getElem?_eq_some_iff.1 hq).1
      have hm := Nat.mul_le_mul_right s (show j + 1 ≤ (p :: ps).length by omega)
      rw [Nat.succ_mul] at hm
      have hl := flat_len hs (p :: ps)
      apply List.ext_getElem?
      intro c
      rw [List.getElem?_take, List.getElem?_drop]
      split
      · rename_i hc; exact flat_get hs _ _ _ _ hq hc
      · rw [List.getElem?_eq_none (by rw [hs]; omega)]
/-- A kind whose values are their cells. -/
structure Flat {α : Type} (d : Kd α) (enc : α → List Value) : Prop where
  E : d.E = []
  M : ∀ {w base ok x cs}, d.M w base ok x cs ↔ cs = enc x
  K : ∀ {w x cs}, d.K w x cs ↔ cs = enc x
section
variable {α : Type} {d : Kd α} {enc : α → List Value}
theorem Flat.len (h : Flat d enc) (x : α) : (enc x).length = d.sz := d.K_len (w := default) (h.K.2 rfl)
theorem Flat.one (h : Flat d enc) (x : α) : ∀ u ∈ enc x, u.oneCell' = true := d.K_one (w := default) (h.K.2 rfl)
/-- The block b holds these elements, and what stands behind them. -/
structure Row (w : World) (b e : Nat) (enc : α → List Value) (xs : List α) (ex : List Value) : Prop where
  rep : ∃ cur, w.heap[b]? = some (.cells cur e (0, 0)) ∧ cur.toList = xs.flatMap enc ++ ex
theorem slc_iff (F : Flat d enc) {e : Nat} {v : Value} {xs : List α} {w : World} : (slc d e v xs).holds w ↔ (v = .slice none 0 0 ∧ xs = []) ∨ ∃ g cap ex, v = .slice (some ⟨g, 0, none⟩) xs.length cap ∧ Row w g e enc xs ex ∧ xs.length ≤ cap ∧ cap ≤ maxLen ∧ ex.length = (cap - xs.length) * d.sz := by
  have hfl := flat_len F.len xs
  constructor
  · rintro ⟨⟨_, inner, ⟨hl, ho⟩, hr⟩, _⟩
    have hr' : Reps (fun p c => c = enc p) d.sz xs inner := hr.imp_ fun p c hp => F.M.1 hp
    have hi := (reps_flat F.len xs inner).1 hr'
    rcases ho with ⟨hv, hn⟩ | ⟨g, cap, cur, hv, _, hb, hc, hm, hsz, ht⟩
    · exact .inl ⟨hv, List.eq_nil_of_length_eq_zero hn⟩
    · refine .inr ⟨g, cap, cur.toList.drop (xs.length * d.sz), hv, ⟨cur, hb, ?_⟩, hc, hm, ?_⟩
      · rw [← hi, ← ht, List.take_append_drop]
      · rw [List.length_drop, Array.length_toList, hsz, Nat.sub_mul]
  · rintro (⟨rfl, rfl⟩ | ⟨g, cap, ex, rfl, ⟨cur, hb, hcur⟩, hc, hm, hex⟩)
    · exact slc_nil d e w
    · have hm2 := Nat.mul_le_mul_right d.sz hc
      have hsz : cur.size = cap * d.sz := by
        rw [← Array.length_toList, hcur, List.length_append, hfl, hex, Nat.sub_mul]; omega
      refine ⟨⟨fun k hk => hk, xs.flatMap enc, ⟨hfl, .inr ⟨g, cap, cur, rfl, Nat.zero_le _, hb, hc, hm, hsz, by rw [hcur, List.take_left' hfl]⟩⟩, ?_⟩, fun k hk => ?_⟩
      · exact ((reps_flat F.len xs _).2 rfl).imp_ fun p c hp => F.M.2 hp
      · have : g = k := by simpa [Value.ownBlock] using hk
        rw [← this]; exact (Array.getElem?_eq_some_iff.1 hb).1
theorem Row.lt {w : World} {b e : Nat} {xs : List α} {ex : List Value} (h : Row w b e enc xs ex) : b < w.heap.size := by
  obtain ⟨cur, hb, _⟩ := h.rep; exact (Array.getElem?_eq_some_iff.1 hb).1
theorem Row.block {w w' : World} {b e : Nat} {xs : List α} {ex : List Value} (h : Row w b e enc xs ex) (m : w'.heap[b]? = w.heap[b]?) : Row w' b e enc xs ex := by
  obtain ⟨cur, hb, hc⟩ := h.rep; exact ⟨cur, m.trans hb, hc⟩
theorem Row.blk {w : World} {b e : Nat} {xs : List α} {ex : List Value} (h : Row w b e enc xs ex) : Blk w b (rows enc xs ex) := by
  obtain ⟨cur, hb, hc⟩ := h.rep
  have := Blk.of_heap hb
  have e : (fun j => cur[j]?) = rows enc xs ex := by funext j; unfold rows; rw [← hc, Array.getElem?_toList]
  rwa [e] at this
theorem Row.cell {w : World} {b e s : Nat} {xs : List α} {ex : List Value} (h : Row w b e enc xs ex) (hs : ∀ x, (enc x).length = s) {i c : Nat} {x : α} (hi : xs[i]? = some x) (hc : c < s) : w.cell? ⟨b, i * s + c, none⟩ = (enc x)[c]? :=
  (h.blk.cell _).trans (rows_get hs hi hc)
theorem Row.fz {w : World} {b e : Nat} {xs : List α} {ex : List Value} (h : Row w b e enc xs ex) (j : Nat) : w.frozen? ⟨b, j, none⟩ = false := h.blk.fz j
end
/-! ### Cells stored one behind the other -/
theorem run_storeCells_at {P : Program} (b k e : Nat) : ∀ (vs : List Value) (i : Nat) (cur : Array Value) (w : World), w.heap[b]? = some (.cells cur e (0, 0)) → k + i + vs.length ≤ cur.size → (∀ v ∈ vs, v.oneCell' = true) →
    ∃ w' cur', (storeCells ⟨b, k, none⟩ vs i).run P w = .ok () w' ∧ w'.heap[b]? = some (.cells cur' e (0, 0)) ∧ cur'.toList = cur.toList.take (k + i) ++ vs ++ cur.toList.drop (k + i + vs.length) ∧ Mod (· = b) w w' ∧ w'.heap.size = w.heap.size
  | [], i, cur, w, hb, _, _ => ⟨w, cur, by simp [storeCells], hb, by simp, Mod.refl _ _, rfl⟩
  | v :: vs, i, cur, w, hb, hl, h1 => by
    have hl' : k + i + (vs.length + 1) ≤ cur.size := by simpa using hl
    have hadd : (⟨b, k, none⟩ : Addr).add i = ⟨b, k + i, none⟩ := by unfold Addr.add; split <;> simp_all
    have hc : w.cell? ⟨b, k + i, none⟩ = some (cur[k + i]'(by omega)) := by rw [blk_cell hb]; exact Array.getElem?_eq_getElem _
    have hst : (store ((⟨b, k, none⟩ : Addr).add i) v).run P w = .ok () (w.setCell ⟨b, k + i, none⟩ v) := by
      rw [hadd, run_store P w _ v _ (h1 v (by simp)), hc]; simp [blk_frozen hb]
    obtain ⟨w', cur', hr, hB, hC, hM, hz⟩ := run_storeCells_at (P := P) b k e vs (i + 1) (cur.setIfInBounds (k + i) v) (w.setCell ⟨b, k + i, none⟩ v) (blk_set hb _ v) (by simp; omega) (fun x hx => h1 x (by simp [hx]))
    refine ⟨w', cur', ?_, hB, ?_, (Mod.setCell (S := (· = b)) rfl v).trans hM, by rw [hz]; simp⟩
    · simp only [storeCells, Sem.run_bind, hst, Result.andThen_ok, hr]
    · rw [hC]
      have hlt : k + i < cur.toList.length := by rw [Array.length_toList]; omega
      rw [Array.toList_setIfInBounds, show k + (i + 1) = (k + i) + 1 by omega, List.take_succ_eq_append_getElem (by simp; omega), List.getElem_set_self, List.take_set_of_le (Nat.le_refl _), List.drop_set_of_lt (by omega)]
      simp only [List.append_assoc, List.singleton_append, List.length_cons, List.cons_append, List.nil_append]
      rw [show k + i + 1 + vs.length = k + i + (vs.length + 1) by omega]
theorem wpList_store_at {P : Program} {w : World} {ops : Array Oper} {rest : List Oper} {o : Oper} {a : Act} {Q : Exit → Act → World → Prop} (hg : o.guard = none) (t : TypeId) (x y : Operand) (hop : o.op = .store t x y)
    (b k e : Nat) (cur : Array Value) (v : Value) (vs : List Value) (hx : a.eval x = .pointer (some ⟨b, k, none⟩)) (hy : a.eval y = v) (hv : v.cells.toList = vs) (hsz : (P.info? t).map (·.size) = some vs.length) (hb : w.heap[b]? = some (.cells cur e (0, 0)))
    (hk : k + vs.length ≤ cur.size) (h1 : ∀ v ∈ vs, v.oneCell' = true)
    (h : ∀ w' cur', w'.heap[b]? = some (.cells cur' e (0, 0)) → cur'.toList = cur.toList.take k ++ vs ++ cur.toList.drop (k + vs.length) → Mod (· = b) w w' → w'.heap.size = w.heap.size → wpList P ops Q rest (a.put o.dst undef) w') : wpList P ops Q (o :: rest) a w := by
  refine wpList_plain hg fun K hK => ?_
  obtain ⟨w', cur', hr, hB, hC, hM, hz⟩ := run_storeCells_at (P := P) b k e vs 0 cur w hb (by simpa using hk) h1
  obtain ⟨i, hi, hi2⟩ := Option.map_eq_some_iff.1 hsz
  have hsize : v.cells.size = i.size := by rw [hi2, ← hv]; simp
  unfold Oper.wp
  have : (execOp a.eval o).run P w = .ok .skip w' := by
    simp [execOp, hop, hx, hy, Instr.storeAt, Instr.sureAddr, storeVar, sizeOf, typeInfo, hi, hsize, hv, hr]
  rw [this]
  exact hK _ _ (h w' cur' hB (by simpa using hC) hM hz)
theorem run_loadVar_at {P : Program} (w : World) (b k : Nat) (t : TypeId) (d : TypeDesc) (vs : List Value) (hc : ∀ j v, vs[j]? = some v → w.cell? ⟨b, k + j, none⟩ = some v) (hu : P.underlying t = some d) (hd : (match d with | .struct _ | .array _ _ => true | _ => false) = true) (hi : (P.info? t).map (·.size) = some vs.length) :
    (loadVar t ⟨b, k, none⟩).run P w = .ok (.agg vs.toArray) w := by
  have hl : (loadCells ⟨b, k, none⟩ vs.length).run P w = .ok vs.toArray w :=
    run_loadCells_list (P := P) w ⟨b, k, none⟩ vs (fun j v hv => by
      have hadd : (⟨b, k, none⟩ : Addr).add j = ⟨b, k + j, none⟩ := by unfold Addr.add; split <;> simp_all
      rw [hadd]; exact hc j v hv)
  obtain ⟨i, hq, hs⟩ := Option.map_eq_some_iff.1 hi
  have hagg : (isAgg t).run P w = .ok true w := by
    unfold isAgg
    rw [Sem.run_bind, run_underlying hu w]
    cases d <;> simp_all
  simp [loadVar, Sem.run_bind, hagg, sizeOf, typeInfo, hq, hs, hl]
theorem wpList_load_at {P : Program} {w : World} {ops : Array Oper} {rest : List Oper} {o : Oper} {a : Act} {Q : Exit → Act → World → Prop} (hg : o.guard = none) (t : TypeId) (x : Operand) (hop : o.op = .load t x)
    (b k : Nat) (d : TypeDesc) (vs : List Value) (hx : a.eval x = .pointer (some ⟨b, k, none⟩)) (hc : ∀ j v, vs[j]? = some v → w.cell? ⟨b, k + j, none⟩ = some v) (hu : P.underlying t = some d) (hd : (match d with | .struct _ | .array _ _ => true | _ => false) = true) (hi : (P.info? t).map (·.size) = some vs.length)
    (h : wpList P ops Q rest (a.put o.dst (.agg vs.toArray)) w) : wpList P ops Q (o :: rest) a w := by
  refine wpList_plain hg fun K hK => ?_
  unfold Oper.wp execOp
  simp only [hop, hx, Instr.loadAt, Instr.sureAddr, Sem.run_bind, Sem.run_pure, Result.andThen_ok, run_loadVar_at w b k t d vs hc hu hd hi]
  exact hK _ _ h
section
variable {α : Type} {d : Kd α} {enc : α → List Value}
theorem flat_set {s : Nat} (hs : ∀ x, (enc x).length = s) : ∀ (xs : List α) (i : Nat) (y : α), i < xs.length → (xs.set i y).flatMap enc = (xs.flatMap enc).take (i * s) ++ enc y ++ (xs.flatMap enc).drop (i * s + s)
  | [], i, y, h => absurd h (Nat.not_lt_zero _)
  | x :: xs, 0, y, _ => by simp [← hs x]
  | x :: xs, i + 1, y, h => by
    have e1 := List.take_append (l₁ := enc x) (l₂ := xs.flatMap enc) (i := (i + 1) * s)
    have e2 := List.drop_append (l₁ := enc x) (l₂ := xs.flatMap enc) (i := (i + 1) * s + s)
    simp only [List.set_cons_succ, List.flatMap_cons]
    rw [flat_set hs xs i y (by simpa using h), e1, e2, hs, List.take_of_length_le (l := enc x) (by rw [hs, Nat.succ_mul]; omega), List.drop_eq_nil_of_le (as := enc x) (by rw [hs, Nat.succ_mul]; omega), show (i + 1) * s - s = i * s by rw [Nat.succ_mul]; omega, show (i + 1) * s + s - s = i * s + s by rw [Nat.succ_mul]; omega]
    simp [List.append_assoc]
/-- An element is stored. -/
theorem wpList_store_row_at {P : Program} {w : World} {ops : Array Oper} {rest : List Oper} {o : Oper} {a : Act} {Q : Exit → Act → World → Prop} (F : Flat d enc) (hg : o.guard = none) (t : TypeId) (x y : Operand) (hop : o.op = .store t x y)
    (b e i : Nat) (xs : List α) (u : α) (ex : List Value) (hx : a.eval x = .pointer (some ⟨b, i * d.sz, none⟩)) (hy : a.eval y = .agg (enc u).toArray) (hsz : (P.info? t).map (·.size) = some d.sz) (hR : Row w b e enc xs ex) (hi : i < xs.length)
    (h : ∀ w', Row w' b e enc (xs.set i u) ex → Mod (· = b) w w' → w'.heap.size = w.heap.size → wpList P ops Q rest (a.put o.dst undef) w') : wpList P ops Q (o :: rest) a w := by
  obtain ⟨cur, hb, hc⟩ := hR.rep
  have hl := F.len u
  have hfl := flat_len F.len xs
  have hm := Nat.mul_le_mul_right d.sz (show i + 1 ≤ xs.length from hi)
  rw [Nat.succ_mul] at hm
  have hcl : cur.size = (xs.flatMap enc).length + ex.length := by rw [← Array.length_toList, hc, List.length_append]
  refine wpList_store_at hg t x y hop b (i * d.sz) e cur _ (enc u) hx hy (by simp [Value.cells]) (by rw [hl]; exact hsz) hb (by omega) (F.one u) fun w' cur' h1 h2 h3 h4 => h w' ⟨cur', h1, ?_⟩ h3 h4
  rw [h2, hc, flat_set F.len xs i u hi, hl, List.take_append_of_le_length (by omega), List.drop_append_of_le_length (by omega)]
  simp [List.append_assoc]
/-- An element is loaded. -/
theorem wpList_load_row_at {P : Program} {w : World} {ops : Array Oper} {rest : List Oper} {o : Oper} {a : Act} {Q : Exit → Act → World → Prop} (F : Flat d enc) (hg : o.guard = none) (t : TypeId) (x : Operand) (hop : o.op = .load t x)
    (b e i : Nat) (xs : List α) (u : α) (ex : List Value) (td : TypeDesc) (hx : a.eval x = .pointer (some ⟨b, i * d.sz, none⟩)) (hu : P.underlying t = some td) (hd : (match td with | .struct _ | .array _ _ => true | _ => false) = true) (hsz : (P.info? t).map (·.size) = some d.sz) (hR : Row w b e enc xs ex) (hi : xs[i]? = some u)
    (h : wpList P ops Q rest (a.put o.dst (.agg (enc u).toArray)) w) : wpList P ops Q (o :: rest) a w :=
  wpList_load_at hg t x hop b (i * d.sz) td (enc u) hx (fun j v hj => (hR.cell F.len hi (by rw [← F.len u]; exact (List.getElem?_eq_some_iff.1 hj).1)).trans hj) hu hd (by rw [F.len]; exact hsz) h
/-- A variable of the call's own gets its value. -/
theorem wpList_store_new {P : Program} {w : World} {ops : Array Oper} {rest : List Oper} {o : Oper} {a : Act} {Q : Exit → Act → World → Prop} (F : Flat d enc) (hg : o.guard = none) (t : TypeId) (x y : Operand) (hop : o.op = .store t x y)
    (b e : Nat) (cur : Array Value) (u : α) (hx : a.eval x = .pointer (some ⟨b, 0, none⟩)) (hy : a.eval y = .agg (enc u).toArray) (hsz : (P.info? t).map (·.size) = some d.sz) (hb : w.heap[b]? = some (.cells cur e (0, 0))) (hc : cur.size = d.sz)
    (h : ∀ w', Row w' b e enc [u] [] → Mod (· = b) w w' → w'.heap.size = w.heap.size → wpList P ops Q rest (a.put o.dst undef) w') : wpList P ops Q (o :: rest) a w := by
  have hl := F.len u
  refine wpList_store_at hg t x y hop b 0 e cur _ (enc u) hx hy (by simp [Value.cells]) (by rw [hl]; exact hsz) hb (by omega) (F.one u) fun w' cur' h1 h2 h3 h4 => h w' ⟨cur', h1, ?_⟩ h3 h4
  rw [h2, List.drop_eq_nil_of_le (by rw [Array.length_toList]; omega)]
  simp
/-- What stands behind is cleared: the first ones stay. -/
theorem run_clear_row {P : Program} {w : World} (F : Flat d enc) (t e ty : TypeId) (z : Value) (ht : P.underlying t = some (.slice e)) (hz : (P.info? e).map (·.zero) = some (some z)) (hzs : z.cells.size = d.sz) (hz1 : ∀ v ∈ z.cells.toList, v.oneCell' = true)
    (b i n c : Nat) (xs : List α) (ex : List Value) (hR : Row w b e enc xs ex) (hin : i + n ≤ xs.length) :
    ∃ w' ex', (Builtin.clear_ #[t] ty #[.slice (some ⟨b, i * d.sz, none⟩) n c]).run P w = .ok (.tuple #[]) w' ∧ Row w' b e enc (xs.take i) ex' ∧ ex'.length = ex.length + (xs.length - i) * d.sz ∧ Mod (· = b) w w' ∧ w'.heap.size = w.heap.size := by
  obtain ⟨cur, hb, hc⟩ := hR.rep
  have hfl := flat_len F.len xs
  have hfl2 := flat_len F.len (xs.take i)
  have hsplit : xs.flatMap enc = (xs.take i).flatMap enc ++ (xs.drop i).flatMap enc := by rw [← List.flatMap_append, List.take_append_drop]
  have hti : (xs.take i).length = i := by simp; omega
  rw [hti] at hfl2
  have hzl : ∀ m, (Builtin.zeroCells z.cells m).toList.length = m * d.sz ∧ ∀ v ∈ (Builtin.zeroCells z.cells m).toList, v.oneCell' = true := by
    intro m
    constructor
    · simp [Builtin.zeroCells, hzs]
    · intro v hv
      simp only [Builtin.zeroCells, Array.toList_map, List.mem_map] at hv
      obtain ⟨j, hj, rfl⟩ := hv
      have hj' : j < m * z.cells.size := by simpa using hj
      have hp : 0 < z.cells.size := Nat.pos_of_ne_zero fun e => by rw [e] at hj'; omega
      have hq := Nat.mod_lt j hp
      have e : z.cells[j % z.cells.size]! = z.cells[j % z.cells.size]'hq := by simp [hq]
      rw [e]
      exact hz1 _ (by rw [Array.mem_toList_iff]; exact Array.getElem_mem hq)
  obtain ⟨iz, hiz, hiz2⟩ := Option.map_eq_some_iff.1 hz
  have hm := Nat.mul_le_mul_right d.sz hin
  have hm2 := Nat.mul_le_mul_right d.sz (show i ≤ xs.length by omega)
  have hcl : cur.toList.length = xs.length * d.sz + ex.length := by rw [hc, List.length_append, hfl]
  have hsm := Nat.sub_mul xs.length i d.sz
  rw [Nat.add_mul] at hm
  obtain ⟨w', cur', hr, hB, hC, hM, hs⟩ := run_storeCells_at (P := P) b (i * d.sz) e (Builtin.zeroCells z.cells n).toList 0 cur w hb (by rw [(hzl n).1, ← Array.length_toList]; omega) (hzl n).2
  refine ⟨w', (Builtin.zeroCells z.cells n).toList ++ cur.toList.drop (i * d.sz + 0 + (Builtin.zeroCells z.cells n).toList.length), ?_, ⟨cur', hB, ?_⟩, ?_, hM, hs⟩
  · cases n with
    | zero =>
      have e0 : (Builtin.zeroCells z.cells 0).toList = [] := List.eq_nil_of_length_eq_zero (by rw [(hzl 0).1]; omega)
      rw [e0] at hr
      simp [storeCells] at hr
      simp [Builtin.clear_, run_underlying ht, hr]
    | succ n => 
      have hr' := hr
      simp [Builtin.clear_, run_underlying ht, zeroValue, typeInfo, hiz, hiz2, hr]
  · rw [hC, hc, Nat.add_zero, hsplit, List.append_assoc (List.flatMap enc (List.take i xs)), List.take_left' hfl2, List.append_assoc]
  · rw [List.length_append, List.length_drop, (hzl n).1, hcl]; omega
end
theorem flInt (k : IntKind) : Flat (Kd.int k) (fun n => [Value.int k n]) := ⟨rfl, Iff.rfl, Iff.rfl⟩
/-- A literal's slice. -/
theorem lit_slc {α : Type} {d : Kd α} {enc : α → List Value} (F : Flat d enc) {e g : Nat} {cs : Array Value} {w : World} {xs : List α} (h : (blk g cs e).holds w) (hc : cs.toList = xs.flatMap enc) (hm : xs.length ≤ maxLen) : (slc d e (.slice (some ⟨g, 0, none⟩) xs.length xs.length) xs).holds w :=
  (slc_iff F).2 (.inr ⟨g, xs.length, [], rfl, ⟨cs, h, by rw [hc, List.append_nil]⟩, Nat.le_refl _, hm, by simp⟩)
theorem slc_form {α : Type} {d : Kd α} {e : Nat} {v : Value} {w : World} {xs : List α} (h : (slc d e v xs).holds w) (hp : 0 < xs.length) : ∃ g c, v = .slice (some ⟨g, 0, none⟩) xs.length c ∧ g < w.heap.size ∧ xs.length ≤ c := by
  obtain ⟨g, c, rfl, _, hl, _⟩ := Kd.R_form h.1 hp
  obtain ⟨_, hc, _⟩ := Kd.R_reads' h.1
  exact ⟨g, c, rfl, hl, hc⟩
theorem slc_int {k : IntKind} {e g n c : Nat} {xs : List Int} {w : World} (h : (slc (Kd.int k) e (.slice (some ⟨g, 0, none⟩) n c) xs).holds w) {i : Nat} {x : Int} (hi : xs[i]? = some x) : w.cell? ⟨g, i, none⟩ = some (.int k x) := by
  obtain ⟨hl, rfl⟩ := List.getElem?_eq_some_iff.1 hi
  rcases (slc_iff (flInt k)).1 h with ⟨hv, _⟩ | ⟨g', cap, ex, hv, hR, _⟩
  · injection hv with h1; cases h1
  · injection hv with h1
    injection h1 with h1
    injection h1 with h1
    subst h1
    have := hR.cell (s := 1) (i := i) (c := 0) (fun x => rfl) (List.getElem?_eq_getElem hl) (by decide)
    simpa using this
theorem add_block (a : Addr) (m : Nat) : (a.add m).block = a.block := by unfold Addr.add; split <;> rfl
/-- An element of an argument: where its cells lie. -/
theorem C_at {α : Type} {d : Kd α} {w : World} {A : Option Addr} {xs : List α} (h : d.C w A xs.length xs) {j : Nat} {x : α} (hx : xs[j]? = some x) (hs : 0 < d.sz) :
    ∃ ad b o cs, A = some ad ∧ ad.add (j * d.sz) = ⟨b, o, none⟩ ∧ b < w.heap.size ∧ d.K w x cs ∧ ∀ i u, cs[i]? = some u → w.cell? ⟨b, o + i, none⟩ = some u := by
  have hj := (List.getElem?_eq_some_iff.1 hx).1
  obtain ⟨ad, c, e, hcl, hK, hc⟩ := Kd.C_get h x (j : Int) (by omega) (by omega)
  have hx' : xs.getD (j : Int).toNat x = x := by rw [Int.toNat_natCast]; simp [List.getD, hx]
  rw [hx'] at hK
  rw [Int.toNat_natCast] at hc
  have hlen := d.K_len hK
  have h0 := hc 0 c[0] (List.getElem?_eq_getElem (by omega))
  rw [Nat.add_zero] at h0
  obtain ⟨b, o, had⟩ : ∃ b o, ad.add (j * d.sz) = ⟨b, o, none⟩ := by
    generalize ad.add (j * d.sz) = q at h0
    obtain ⟨b, o, s⟩ := q
    cases s with
    | none => exact ⟨b, o, rfl⟩
    | some s => unfold World.cell? at h0; dsimp only at h0; split at h0 <;> simp at h0
  have hb := World.block_lt_of_cell? w _ h0
  rw [had] at hb
  refine ⟨ad, b, o, c, e, had, hb, hK, fun i u hu => ?_⟩
  rcases Nat.eq_zero_or_pos i with rfl | hi
  · have := hc 0 u hu
    rwa [Nat.add_zero, had] at this
  · have := hc i u hu
    rwa [add_field _ _ i hi, had] at this
theorem C_block {α : Type} {d : Kd α} {w : World} {ad : Addr} {xs : List α} (h : d.C w (some ad) xs.length xs) (hp : 0 < xs.length) (hs : 0 < d.sz) : ad.block < w.heap.size := by
  obtain ⟨ad', b, o, cs, e, ha, hb, _⟩ := C_at h (List.getElem?_eq_getElem hp) hs
  cases e
  have := add_block ad (0 * d.sz)
  rw [ha] at this
  rw [← this]; exact hb
theorem St.ge {w0 w : World} {L : List Asr} (h : St (fun _ => False) w0 w L) (i : Nat) {a : Asr} (hi : L[i]? = some a) {k : Nat} (hk : a.fp k) : w0.heap.size ≤ k := by
  rcases Nat.lt_or_ge k w0.heap.size with h1 | h1
  · exact (h.inn a (List.mem_of_getElem? hi) k hk h1).elim
  · exact h1
theorem St.base {w0 w : World} {L : List Asr} (h : St (fun _ => False) w0 w L) : Below w0.heap.size w0 w := h.mod.below (Nat.le_refl _) (by simp)
end Go.Tat
