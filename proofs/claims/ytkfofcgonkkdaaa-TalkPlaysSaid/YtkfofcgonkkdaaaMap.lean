/- Maps as lists of keys with values: what the operations on them do. -/
import Derived.Test.YtkfofcgonkkdaaaMod
import Derived.MapKept
namespace Go.Tat
open Go.RowKit
/-- What the model asks of a key's type. -/
structure KeyLaw (P : Program) (kt : TypeId) {κ : Type} [DecidableEq κ] (ek : κ → Value) : Prop where
  desc : ∃ d, P.underlying kt = some d ∧ ∀ x y, Instr.sameNow d (ek x) (ek y) = some (decide (x = y))
  check : ∀ (empty : Bool) (x : κ) (w : World), (Instr.checkKey empty 10000 kt (ek x)).run P w = .ok () w
  same : ∀ x, Instr.sameBits 10000 (ek x) (ek x) = true
theorem checkKey_int {P : Program} {kt : TypeId} {k : IntKind} (h : P.underlying kt = some (.int k)) (e : Bool) (n : Nat) (v : Value) (w : World) : (Instr.checkKey e (n + 1) kt v).run P w = .ok () w := by
  simp [Instr.checkKey, run_underlying h]
theorem checkKey_string {P : Program} {kt : TypeId} (h : P.underlying kt = some .string) (e : Bool) (n : Nat) (v : Value) (w : World) : (Instr.checkKey e (n + 1) kt v).run P w = .ok () w := by
  simp [Instr.checkKey, run_underlying h]
theorem sameBits_int (n : Nat) (k : IntKind) (x : Int) : Instr.sameBits n (.int k x) (.int k x) = true := by
  unfold Instr.sameBits; simp
theorem beq_bytes (x y : ByteArray) : (x == y) = decide (x = y) := by
  have h : (x == y) = true ↔ x = y := by
    obtain ⟨x⟩ := x; obtain ⟨y⟩ := y
    show (x == y) = true ↔ _
    simp
  by_cases e : x = y
  · rw [decide_eq_true e, h.2 e]
  · rw [decide_eq_false e]
    cases hb : (x == y) with
    | false => rfl
    | true => exact absurd (h.1 hb) e
theorem sameBits_string (n : Nat) (x : ByteArray) : Instr.sameBits n (.string x) (.string x) = true := by
  unfold Instr.sameBits; simp [beq_bytes]
theorem KeyLaw.int {P : Program} {kt : TypeId} {k : IntKind} (h : P.underlying kt = some (.int k)) : KeyLaw P kt (Value.int k) where
  desc := ⟨_, h, fun x y => by simp [Instr.sameNow, Bool.beq_eq_decide_eq]⟩
  check := fun e x w => checkKey_int h e 9999 _ w
  same := fun x => sameBits_int _ k x
theorem KeyLaw.string {P : Program} {kt : TypeId} (h : P.underlying kt = some .string) : KeyLaw P kt Value.string where
  desc := ⟨_, h, fun x y => by
    show some (x == y) = _
    rw [beq_bytes]⟩
  check := fun e x w => checkKey_string h e 9999 _ w
  same := fun x => sameBits_string _ x
theorem run_getObj_map' {P : Program} {w : World} {b : Nat} {es : Array MapEntry} {clock : Nat} (hb : w.heap[b]? = some (.map es clock)) : (getObj b).run P w = .ok (.map es clock) w := by
  simp [getObj, Sem.run, hb]
section
variable {κ ν : Type}
/-- The map at b: these keys with these values. -/
structure MapAt (w : World) (b : Nat) (ek : κ → Value) (ev : ν → Value) (L : List (κ × ν)) : Prop where
  nd : (L.map (·.1)).Nodup
  rep : ∃ es clock, w.heap[b]? = some (.map es clock) ∧ es.toList.map (fun e => (e.key, e.val)) = L.map (fun p => (ek p.1, ev p.2)) ∧ (∀ e ∈ es.toList, e.born < clock) ∧ (es.toList.map (·.born)).Nodup
theorem MapAt.lt {w : World} {b : Nat} {ek : κ → Value} {ev : ν → Value} {L : List (κ × ν)} (h : MapAt w b ek ev L) : b < w.heap.size := by
  obtain ⟨_, _, hb, _⟩ := h.rep
  exact (Array.getElem?_eq_some_iff.1 hb).1
theorem MapAt.mod {w w' : World} {b : Nat} {ek : κ → Value} {ev : ν → Value} {L : List (κ × ν)} {F : Nat → Prop} (h : MapAt w b ek ev L) (m : Mod F w w') (hn : ¬ F b) : MapAt w' b ek ev L := by
  obtain ⟨es, c, hb, r⟩ := h.rep
  exact ⟨h.nd, es, c, (m.block b h.lt hn).trans hb, r⟩
theorem MapAt.below {w w' : World} {b : Nat} {ek : κ → Value} {ev : ν → Value} {L : List (κ × ν)} (h : MapAt w b ek ev L) (m : Below w.heap.size w w') : MapAt w' b ek ev L :=
  h.mod (Mod.of_below (S := fun _ => False) m) (by simp)
/-- A new map. -/
theorem wpList_makeMap {P : Program} {w : World} {ops : Array Oper} {rest : List Oper} {o : Oper} {a : Act} {Q : Exit → Act → World → Prop} (hg : o.guard = none) (t : TypeId) (hop : o.op = .makeMap t none) (ek : κ → Value) (ev : ν → Value)
    (h : MapAt (w.alloc (.map #[] 0)) w.heap.size ek ev ([] : List (κ × ν)) → wpList P ops Q rest (a.put o.dst (.map (some w.heap.size))) (w.alloc (.map #[] 0))) : wpList P ops Q (o :: rest) a w := by
  refine wpList_plain hg fun K hK => ?_
  unfold Oper.wp
  have : (execOp a.eval o).run P w = .ok (.value (.map (some w.heap.size))) (w.alloc (.map #[] 0)) := by
    simp [execOp, hop, Instr.makeMap]
  rw [this]
  exact hK _ _ (h ⟨by simp, #[], 0, by show (w.heap.push _)[w.heap.size]? = _; simp, by simp, by simp, by simp⟩)
theorem size_of_rep {es : Array MapEntry} {L : List (κ × ν)} {ek : κ → Value} {ev : ν → Value} (h : es.toList.map (fun e => (e.key, e.val)) = L.map (fun p => (ek p.1, ev p.2))) : es.size = L.length := by
  have := congrArg List.length h
  simpa using this
/-- The number of entries. -/
theorem wpList_mapLen {P : Program} {w : World} {ops : Array Oper} {rest : List Oper} {o : Oper} {a : Act} {Q : Exit → Act → World → Prop} (hg : o.guard = none) (t kt et : TypeId) (x : Operand) (hop : o.op = Op.call { callee := Callee.builtin Builtin.len, args := #[x], argTypes := #[t] })
    (ht : P.underlying t = some (.map kt et)) (ek : κ → Value) (ev : ν → Value) (b : Nat) (L : List (κ × ν)) (hm : MapAt w b ek ev L) (hx : a.eval x = .map (some b))
    (h : wpList P ops Q rest (a.put o.dst (.int .i64 (L.length : Int))) w) : wpList P ops Q (o :: rest) a w := by
  refine wpList_plain hg fun K hK => ?_
  obtain ⟨es, c, hb, hes, _⟩ := hm.rep
  unfold Oper.wp
  have : (execOp a.eval o).run P w = .ok (.value (.int .i64 (L.length : Int))) w := by
    simp [execOp, hop, resolve, invoke, builtin, Builtin.len_, hx, run_underlying ht, run_getObj_map' hb, size_of_rep hes, goInt]
  rw [this]
  exact hK _ _ h
end
section
variable {κ ν : Type} [DecidableEq κ]
/-- The value at a key, and where it stands. -/
def mpos : List (κ × ν) → κ → Option (Nat × ν)
  | [], _ => none
  | p :: L, x => if p.1 = x then some (0, p.2) else (mpos L x).map fun q => (q.1 + 1, q.2)
def mget (L : List (κ × ν)) (x : κ) : Option ν := (mpos L x).map (·.2)
def mput (L : List (κ × ν)) (x : κ) (y : ν) : List (κ × ν) := match mpos L x with | some q => L.set q.1 (x, y) | none => L ++ [(x, y)]
def mdel (L : List (κ × ν)) (x : κ) : List (κ × ν) := match mpos L x with | some q => L.eraseIdx q.1 | none => L
/-- Where a key stands. -/
theorem findNow_eq {d : TypeDesc} {ek : κ → Value} {ev : ν → Value} (hd : ∀ x y, Instr.sameNow d (ek x) (ek y) = some (decide (x = y))) (x : κ) : ∀ (es : List MapEntry) (L : List (κ × ν)) (i : Nat),
    es.map (fun e => (e.key, e.val)) = L.map (fun p => (ek p.1, ev p.2)) →
    Instr.findNow d (ek x) es i = some ((mpos L x).map fun j => (i + j.1, ev j.2))
  | [], L, i, h => by
    have : L = [] := by simpa using h.symm
    subst this; rfl
  | e :: es, [], i, h => by simp at h
  | e :: es, p :: L, i, h => by
    simp only [List.map_cons, List.cons.injEq, Prod.mk.injEq] at h
    obtain ⟨⟨h1, h2⟩, h3⟩ := h
    have ih := findNow_eq hd x es L (i + 1) h3
    rw [Instr.findNow, h1, hd, mpos]
    by_cases hx : x = p.1
    · rw [decide_eq_true hx, if_pos hx.symm]
      simp [h2]
    · rw [decide_eq_false hx, if_neg fun e => hx e.symm]
      show Instr.findNow d (ek x) es (i + 1) = _
      rw [ih]
      cases mpos L x <;> simp
      omega
theorem findKey_run {P : Program} {kt : TypeId} {ek : κ → Value} (hk : KeyLaw P kt ek) {ev : ν → Value} (x : κ) (es : List MapEntry) (L : List (κ × ν)) (w : World) (h : es.map (fun e => (e.key, e.val)) = L.map (fun p => (ek p.1, ev p.2))) :
    (Instr.findKey kt (ek x) es).run P w = .ok ((mpos L x).map fun j => (j.1, ev j.2)) w := by
  obtain ⟨d, hd, hs⟩ := hk.desc
  have := findNow_eq (ev := ev) hs x es L 0 h
  simp [Instr.findKey, run_underlying hd, this]
/-- A look-up, as an equation. -/
theorem MapAt.run_lookup {P : Program} {w : World} {t kt et : TypeId} (ok : Bool)
    (ht : P.underlying t = some (.map kt et)) {ek : κ → Value} (hk : KeyLaw P kt ek) {ev : ν → Value} {b : Nat} {L : List (κ × ν)} (hm : MapAt w b ek ev L) (k : κ) (z : Value) (hz : (P.info? et).map (·.zero) = some (some z)) :
    (Instr.lookup t (.map (some b)) (ek k) ok).run P w = .ok (if ok then .tuple #[((mget L k).map ev).getD z, .bool (mget L k).isSome] else ((mget L k).map ev).getD z) w := by
  obtain ⟨es, c, hb, hes, _⟩ := hm.rep
  obtain ⟨i, hi, hi2⟩ := Option.map_eq_some_iff.1 hz
  simp only [Instr.lookup, Sem.run_bind, run_underlying ht, Result.andThen_ok, run_getObj_map' hb, Sem.run_pure, hk.check, findKey_run hk k es.toList L w hes, mget]
  cases h2 : mpos L k with
  | none => cases ok <;> simp [zeroValue, typeInfo, hi, hi2]
  | some v => cases ok <;> simp
/-- The same, where it is known what stands at the key. -/
theorem MapAt.look {P : Program} {w : World} {t kt et : TypeId}
    (ht : P.underlying t = some (.map kt et)) {ek : κ → Value} (hk : KeyLaw P kt ek) {ev : ν → Value} {b : Nat} {L : List (κ × ν)} (hm : MapAt w b ek ev L) (k : κ) (z : Value) (hz : (P.info? et).map (·.zero) = some (some z)) (r : Option ν) (hr : mget L k = r) (v : Value) (hv : (r.map ev).getD z = v) :
    (Instr.lookup t (.map (some b)) (ek k) false).run P w = .ok v w ∧ (Instr.lookup t (.map (some b)) (ek k) true).run P w = .ok (.tuple #[v, .bool r.isSome]) w := by
  subst hr; subst hv
  exact ⟨hm.run_lookup false ht hk k z hz, hm.run_lookup true ht hk k z hz⟩
theorem mpos_get : ∀ (L : List (κ × ν)) (x : κ) (q : Nat × ν), mpos L x = some q → L[q.1]? = some (x, q.2)
  | [], x, q, h => by simp [mpos] at h
  | p :: L, x, q, h => by
    rw [mpos] at h
    by_cases hx : p.1 = x
    · rw [if_pos hx] at h
      obtain rfl := (Option.some.inj h).symm
      show some p = _
      rw [← hx]
    · rw [if_neg hx] at h
      obtain ⟨q', h', rfl⟩ := Option.map_eq_some_iff.1 h
      simpa using mpos_get L x q' h'
theorem mpos_none : ∀ (L : List (κ × ν)) (x : κ), mpos L x = none ↔ ∀ p ∈ L, p.1 ≠ x
  | [], x => by simp [mpos]
  | p :: L, x => by
    rw [mpos]
    by_cases hx : p.1 = x
    · simp [hx]
    · simp [hx, mpos_none L x]
theorem mput_keys {L : List (κ × ν)} {x : κ} {y : ν} : (mput L x y).map (·.1) = if x ∈ L.map (·.1) then L.map (·.1) else L.map (·.1) ++ [x] := by
  unfold mput
  cases h : mpos L x with
  | none =>
    have := (mpos_none L x).1 h
    rw [if_neg (by simp only [List.mem_map]; rintro ⟨p, hp, e⟩; exact this p hp e)]
    simp
  | some q =>
    have := mpos_get L x q h
    have hm : x ∈ L.map (·.1) := List.mem_map.2 ⟨_, List.mem_of_getElem? this, rfl⟩
    rw [if_pos hm]
    apply List.ext_getElem?
    intro j
    rw [List.getElem?_map, List.getElem?_map, List.getElem?_set]
    split
    · rename_i e
      subst e
      split
      · rw [this]; rfl
      · rename_i hl
        rw [List.getElem?_eq_none (by omega)]
    · rfl
theorem mput_nodup {L : List (κ × ν)} {x : κ} {y : ν} (h : (L.map (·.1)).Nodup) : ((mput L x y).map (·.1)).Nodup := by
  rw [mput_keys]
  split
  · exact h
  · rename_i hx
    rw [List.nodup_append]
    exact ⟨h, by simp, fun a ha b hb => by simp only [List.mem_singleton] at hb; subst hb; exact fun e => hx (e ▸ ha)⟩
/-- A value put at a key. -/
theorem wpList_mapUpdate {P : Program} {w : World} {ops : Array Oper} {rest : List Oper} {o : Oper} {a : Act} {Q : Exit → Act → World → Prop} (hg : o.guard = none) (t kt et : TypeId) (x y z : Operand) (hop : o.op = .mapUpdate t x y z)
    (ht : P.underlying t = some (.map kt et)) {ek : κ → Value} (hk : KeyLaw P kt ek) (ev : ν → Value) (b : Nat) (L : List (κ × ν)) (hm : MapAt w b ek ev L) (k : κ) (v : ν)
    (hx : a.eval x = .map (some b)) (hy : a.eval y = ek k) (hz : a.eval z = ev v)
    (h : ∀ w', MapAt w' b ek ev (mput L k v) → Mod (· = b) w w' → wpList P ops Q rest (a.put o.dst undef) w') : wpList P ops Q (o :: rest) a w := by
  refine wpList_plain hg fun K hK => ?_
  obtain ⟨es, c, hb, hes, hc, hn⟩ := hm.rep
  have hlt := hm.lt
  have hfind := findKey_run hk k es.toList L w hes
  have hlen := size_of_rep hes
  unfold Oper.wp
  cases hp : mpos L k with
  | none =>
    rw [hp] at hfind
    have : (execOp a.eval o).run P w = .ok .skip { w with heap := w.heap.setIfInBounds b (.map (es.push { key := ek k, val := ev v, born := c }) (c + 1)) } := by
      simp [execOp, hop, hx, hy, hz, Instr.mapUpdate, run_underlying ht, run_getObj_map' hb, hk.check, hfind, MapKept.run_setObj_map _ hb]
    rw [this]
    refine hK _ _ (h _ ⟨mput_nodup hm.nd, es.push { key := ek k, val := ev v, born := c }, c + 1, ?_, ?_, ?_, ?_⟩ ?_)
    · simp [hlt]
    · simp [mput, hp, hes]
    · intro e he
      simp at he
      rcases he with he | rfl
      · have := hc e (by simpa using he); omega
      · simp
    · rw [Array.toList_push, List.map_append, List.nodup_append]
      refine ⟨hn, by simp, fun x hx y hy => ?_⟩
      simp only [List.map_cons, List.map_nil, List.mem_singleton] at hy
      obtain ⟨e, he, rfl⟩ := List.mem_map.1 hx
      have := hc e he
      omega
    · exact ⟨rfl, rfl, rfl, by simp, fun j hj hne => by simp [Array.getElem?_set, Ne.symm hne]⟩
  | some q =>
    rw [hp] at hfind
    have hq := mpos_get L k q hp
    have hql : q.1 < es.size := by
      have := (List.getElem?_eq_some_iff.1 hq).1
      omega
    have hkey : (es[q.1]?).map (·.key) = some (ek k) := by
      have e1 := congrArg (fun l => l[q.1]?) hes
      simp only [List.getElem?_map, hq] at e1
      rw [Array.getElem?_toList] at e1
      cases h3 : es[q.1]? with
      | none => rw [h3] at e1; simp at e1
      | some e => rw [h3] at e1; simp at e1; simp [e1.1]
    have : (execOp a.eval o).run P w = .ok .skip { w with heap := w.heap.setIfInBounds b (.map (es.modify q.1 fun e => { e with key := ek k, val := ev v }) c) } := by
      simp [execOp, hop, hx, hy, hz, Instr.mapUpdate, run_underlying ht, run_getObj_map' hb, hk.check, hfind, MapKept.run_setObj_map _ hb, hkey, Instr.keyThatStays, hk.same]
    rw [this]
    refine hK _ _ (h _ ⟨mput_nodup hm.nd, es.modify q.1 fun e => { e with key := ek k, val := ev v }, c, ?_, ?_, ?_, ?_⟩ ?_)
    · simp [hlt]
    · rw [Array.toList_modify]
      simp only [mput, hp]
      apply List.ext_getElem?
      intro j
      have e1 := congrArg (fun l => l[j]?) hes
      simp only [List.getElem?_map] at e1 ⊢
      rw [List.getElem?_modify, List.getElem?_set]
      by_cases hj : q.1 = j
      · have : es.toList[j]? = some (es.toList[j]'(by simp; omega)) := List.getElem?_eq_getElem _
        subst hj
        rw [this]
        simp [show q.1 < L.length by omega]
      · simp only [hj, if_false]
        simpa using e1
    · intro e he
      rw [Array.toList_modify] at he
      obtain ⟨j, hj⟩ := List.mem_iff_getElem?.1 he
      rw [List.getElem?_modify] at hj
      cases h3 : es.toList[j]? with
      | none => rw [h3] at hj; simp at hj
      | some e' =>
        rw [h3] at hj
        have := hc e' (List.mem_of_getElem? h3)
        simp at hj
        subst hj
        split <;> exact this
    · have : (es.modify q.1 fun e => { e with key := ek k, val := ev v }).toList.map (·.born) = es.toList.map (·.born) := by
        rw [Array.toList_modify]
        apply List.ext_getElem?
        intro j
        rw [List.getElem?_map, List.getElem?_map, List.getElem?_modify]
        cases es.toList[j]? with
        | none => rfl
        | some e => simp; split <;> rfl
      rw [this]; exact hn
    · exact ⟨rfl, rfl, rfl, by simp, fun j hj hne => by simp [Array.getElem?_set, Ne.symm hne]⟩
theorem mput_nil (x : κ) (v : ν) : mput [] x v = [(x, v)] := rfl
theorem mput_cons (p : κ × ν) (L : List (κ × ν)) (x : κ) (v : ν) : mput (p :: L) x v = if p.1 = x then (x, v) :: L else p :: mput L x v := by
  unfold mput
  rw [mpos]
  by_cases h : p.1 = x
  · simp [h]
  · rw [if_neg h, if_neg h]
    cases mpos L x <;> simp
theorem mget_nil (x : κ) : mget ([] : List (κ × ν)) x = none := rfl
theorem mget_cons (p : κ × ν) (L : List (κ × ν)) (x : κ) : mget (p :: L) x = if p.1 = x then some p.2 else mget L x := by
  unfold mget
  rw [mpos]
  by_cases h : p.1 = x
  · simp [h]
  · rw [if_neg h, if_neg h]
    cases mpos L x <;> simp
theorem mget_mput (L : List (κ × ν)) (x y : κ) (v : ν) : mget (mput L x v) y = if y = x then some v else mget L y := by
  induction L with
  | nil =>
    rw [mput_nil, mget_cons, mget_nil]
    by_cases h : y = x
    · simp [h]
    · rw [if_neg h, if_neg (fun e => h e.symm)]
  | cons p L ih =>
    rw [mput_cons]
    by_cases hp : p.1 = x
    · rw [if_pos hp, mget_cons, mget_cons]
      by_cases h : y = x
      · simp [h]
      · rw [if_neg h, if_neg (fun e => h e.symm), if_neg (fun e => h (by rw [← e]; exact hp))]
    · rw [if_neg hp, mget_cons, mget_cons, ih]
      by_cases h : y = x
      · subst h; simp [hp]
      · simp [h]
theorem mput_length (L : List (κ × ν)) (x : κ) (v : ν) : (mput L x v).length = if (mget L x).isSome then L.length else L.length + 1 := by
  induction L with
  | nil => rfl
  | cons p L ih =>
    rw [mput_cons, mget_cons]
    by_cases hp : p.1 = x
    · simp [hp]
    · rw [if_neg hp, if_neg hp, List.length_cons, ih]
      split <;> simp
end
end Go.Tat
