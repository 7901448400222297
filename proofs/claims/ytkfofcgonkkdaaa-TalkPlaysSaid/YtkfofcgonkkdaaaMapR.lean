/- Maps: entries struck, entries gone over. -/
import Derived.Test.YtkfofcgonkkdaaaSL
import Derived.Maps.RangeRun
namespace Go.Tat
open Go.RowKit
theorem map_eraseIdx {α β : Type} (f : α → β) : ∀ (l : List α) (i : Nat), (l.eraseIdx i).map f = (l.map f).eraseIdx i
  | [], _ => rfl
  | x :: l, 0 => rfl
  | x :: l, i + 1 => by simp only [List.eraseIdx_cons_succ, List.map_cons, map_eraseIdx f l i]
section
variable {κ ν : Type} [DecidableEq κ]
theorem mdel_eq : ∀ (L : List (κ × ν)) (x : κ), (L.map (·.1)).Nodup → mdel L x = L.filter fun p => decide (p.1 ≠ x)
  | [], x, _ => rfl
  | p :: L, x, h => by
    rw [List.map_cons, List.nodup_cons] at h
    have ih := mdel_eq L x h.2
    unfold mdel at ih ⊢
    rw [mpos]
    by_cases hx : p.1 = x
    · rw [if_pos hx, List.filter_cons_of_neg (by simp [hx])]
      have : L.filter (fun p => decide (p.1 ≠ x)) = L := List.filter_eq_self.2 fun q hq => by
        have : q.1 ≠ x := fun e => h.1 (List.mem_map.2 ⟨q, hq, e.trans hx.symm⟩)
        simp [this]
      rw [this]; rfl
    · rw [if_neg hx, List.filter_cons_of_pos (by simp [hx])]
      cases hp : mpos L x with
      | none => rw [hp] at ih; exact congrArg (p :: ·) ih
      | some q =>
        rw [hp] at ih
        show (p :: L).eraseIdx (q.1 + 1) = _
        rw [List.eraseIdx_cons_succ]; exact congrArg (p :: ·) ih
theorem mget_some_mem {L : List (κ × ν)} {x : κ} {v : ν} (h : mget L x = some v) : (x, v) ∈ L := by
  unfold mget at h
  obtain ⟨q, hq, rfl⟩ := Option.map_eq_some_iff.1 h
  exact List.mem_of_getElem? (mpos_get L x q hq)
theorem mget_mem {L : List (κ × ν)} (hn : (L.map (·.1)).Nodup) {x : κ} {v : ν} (h : (x, v) ∈ L) : mget L x = some v := by
  induction L with
  | nil => simp at h
  | cons p L ih =>
    rw [List.map_cons, List.nodup_cons] at hn
    rw [mget_cons]
    rcases List.mem_cons.1 h with rfl | h
    · simp
    · have : p.1 ≠ x := fun e => hn.1 (List.mem_map.2 ⟨_, h, e.symm⟩)
      rw [if_neg this]; exact ih hn.2 h
theorem mget_iff {L : List (κ × ν)} (hn : (L.map (·.1)).Nodup) {x : κ} {v : ν} : mget L x = some v ↔ (x, v) ∈ L := ⟨mget_some_mem, mget_mem hn⟩
theorem mget_none {L : List (κ × ν)} {x : κ} : mget L x = none ↔ x ∉ L.map (·.1) := by
  unfold mget
  rw [Option.map_eq_none_iff, mpos_none]
  simp only [List.mem_map, not_exists, not_and]
theorem mdel_nodup {L : List (κ × ν)} {x : κ} (h : (L.map (·.1)).Nodup) : ((mdel L x).map (·.1)).Nodup := by
  rw [mdel_eq L x h]
  exact (List.filter_sublist.map _).nodup h
theorem mget_mdel {L : List (κ × ν)} (h : (L.map (·.1)).Nodup) (x y : κ) : mget (mdel L x) y = if y = x then none else mget L y := by
  have hd := mdel_nodup (x := x) h
  by_cases e : y = x
  · rw [if_pos e, mget_none, mdel_eq L x h]
    intro hy
    obtain ⟨p, hp, hpy⟩ := List.mem_map.1 hy
    have := (List.mem_filter.1 hp).2
    simp at this
    exact this (hpy.trans e)
  · rw [if_neg e]
    apply Option.ext
    intro v
    rw [mget_iff hd, mget_iff h, mdel_eq L x h, List.mem_filter]
    simp [e]
theorem mem_mdel {L : List (κ × ν)} (h : (L.map (·.1)).Nodup) {x : κ} {p : κ × ν} : p ∈ mdel L x ↔ p ∈ L ∧ p.1 ≠ x := by
  rw [mdel_eq L x h, List.mem_filter]; simp
theorem mdel_length {L : List (κ × ν)} {x : κ} : (mdel L x).length = if (mget L x).isSome then L.length - 1 else L.length := by
  unfold mdel mget
  cases hp : mpos L x with
  | none => simp
  | some q =>
    have := (List.getElem?_eq_some_iff.1 (mpos_get L x q hp)).1
    simp [List.length_eraseIdx, this]
/-- An entry struck. -/
theorem wpList_mapDelete {P : Program} {w : World} {ops : Array Oper} {rest : List Oper} {o : Oper} {a : Act} {Q : Exit → Act → World → Prop} (hg : o.guard = none) (t kt et : TypeId) (x y : Operand) (hop : o.op = Op.call { callee := Callee.builtin Builtin.delete, args := #[x, y], argTypes := #[t, kt] })
    (ht : P.underlying t = some (.map kt et)) {ek : κ → Value} (hk : KeyLaw P kt ek) (ev : ν → Value) (b : Nat) (L : List (κ × ν)) (hm : MapAt w b ek ev L) (k : κ)
    (hx : a.eval x = .map (some b)) (hy : a.eval y = ek k)
    (h : ∀ w', MapAt w' b ek ev (mdel L k) → Mod (· = b) w w' → wpList P ops Q rest (a.put o.dst (.tuple #[])) w') : wpList P ops Q (o :: rest) a w := by
  refine wpList_plain hg fun K hK => ?_
  obtain ⟨es, c, hb, hes, hc, hn⟩ := hm.rep
  have hlt := hm.lt
  have hfind := findKey_run hk k es.toList L w hes
  have hlen := size_of_rep hes
  unfold Oper.wp
  cases hp : mpos L k with
  | none =>
    rw [hp] at hfind
    have : (execOp a.eval o).run P w = .ok (.value (.tuple #[])) { w with heap := w.heap.setIfInBounds b (.map es c) } := by
      simp [execOp, hop, hx, hy, resolve, invoke, builtin, Builtin.delete_, run_underlying ht, run_getObj_map' hb, hk.check, hfind, MapKept.run_setObj_map _ hb]
    rw [this]
    refine hK _ _ (h _ ⟨mdel_nodup hm.nd, es, c, by simp [hlt], ?_, hc, hn⟩ ⟨rfl, rfl, rfl, by simp, fun j hj hne => by simp [Array.getElem?_set, Ne.symm hne]⟩)
    simpa [mdel, hp] using hes
  | some q =>
    rw [hp] at hfind
    have hq := mpos_get L k q hp
    have hql : q.1 < es.size := by
      have := (List.getElem?_eq_some_iff.1 hq).1
      omega
    have : (execOp a.eval o).run P w = .ok (.value (.tuple #[])) { w with heap := w.heap.setIfInBounds b (.map (es.eraseIdxIfInBounds q.1) c) } := by
      simp [execOp, hop, hx, hy, resolve, invoke, builtin, Builtin.delete_, run_underlying ht, run_getObj_map' hb, hk.check, hfind, MapKept.run_setObj_map _ hb]
    rw [this]
    have htl : (es.eraseIdxIfInBounds q.1).toList = es.toList.eraseIdx q.1 := by
      simp [Array.eraseIdxIfInBounds, hql]
    refine hK _ _ (h _ ⟨mdel_nodup hm.nd, es.eraseIdxIfInBounds q.1, c, by simp [hlt], ?_, ?_, ?_⟩ ⟨rfl, rfl, rfl, by simp, fun j hj hne => by simp [Array.getElem?_set, Ne.symm hne]⟩)
    · rw [htl]
      simp only [mdel, hp, map_eraseIdx, hes]
    · intro e he
      rw [htl] at he
      exact hc e (List.mem_of_mem_eraseIdx he)
    · rw [htl, map_eraseIdx]
      exact (List.eraseIdx_sublist _ _).nodup hn
end
/-- The number of entries, as an equation (for a 'len' under a guard). -/
theorem MapAt.run_len {κ ν : Type} {P : Program} {w : World} {t kt et r : TypeId} (ht : P.underlying t = some (.map kt et)) {ek : κ → Value} {ev : ν → Value} {b : Nat} {L : List (κ × ν)} (hm : MapAt w b ek ev L) : (Builtin.len_ #[t] r #[.map (some b)]).run P w = .ok (.int .i64 (L.length : Int)) w := by
  obtain ⟨es, c, hb, hes, _⟩ := hm.rep
  simp [Builtin.len_, run_underlying ht, run_getObj_map' hb, size_of_rep hes, goInt]
section
variable {κ ν : Type}
/-- The map at b is gone over by the iterator at r; left: the keys that are still to come. -/
structure Ranging (w : World) (b r : Nat) (ek : κ → Value) (ev : ν → Value) (L : List (κ × ν)) (left : κ → Bool) : Prop where
  nd : (L.map (·.1)).Nodup
  rep : ∃ es clock since seen c0, w.heap[b]? = some (.map es clock) ∧ es.toList.map (fun e => (e.key, e.val)) = L.map (fun p => (ek p.1, ev p.2)) ∧ (∀ e ∈ es.toList, e.born < clock) ∧ (es.toList.map (·.born)).Nodup ∧
    w.heap[r]? = some (.mapIter (some b) since seen c0) ∧ (∀ x ∈ es.toList, x.born < since) ∧ since ≤ c0 ∧ since ≤ clock ∧ ∀ (i : Nat) (e : MapEntry) (p : κ × ν), es.toList[i]? = some e → L[i]? = some p → left p.1 = !seen.contains e.born
section
variable {w w' : World} {b r : Nat} {ek : κ → Value} {ev : ν → Value} {L : List (κ × ν)} {left : κ → Bool}
theorem Ranging.map (h : Ranging w b r ek ev L left) : MapAt w b ek ev L := by
  obtain ⟨es, clock, since, seen, c0, hb, hes, hc, hn, _⟩ := h.rep
  exact ⟨h.nd, es, clock, hb, hes, hc, hn⟩
theorem Ranging.ne (h : Ranging w b r ek ev L left) : r ≠ b := by
  obtain ⟨es, clock, since, seen, c0, hb, _, _, _, hr, _⟩ := h.rep
  intro e
  rw [e, hb] at hr
  cases hr
theorem Ranging.lt (h : Ranging w b r ek ev L left) : b < w.heap.size ∧ r < w.heap.size := by
  obtain ⟨es, clock, since, seen, c0, hb, _, _, _, hr, _⟩ := h.rep
  exact ⟨(Array.getElem?_eq_some_iff.1 hb).1, (Array.getElem?_eq_some_iff.1 hr).1⟩
theorem Ranging.keep (h : Ranging w b r ek ev L left) (hb' : w'.heap[b]? = w.heap[b]?) (hr' : w'.heap[r]? = w.heap[r]?) : Ranging w' b r ek ev L left := by
  obtain ⟨es, clock, since, seen, c0, hb, h1, h2, h3, hr, h4⟩ := h.rep
  exact ⟨h.nd, es, clock, since, seen, c0, hb'.trans hb, h1, h2, h3, hr'.trans hr, h4⟩
end
theorem wpList_range {P : Program} {w : World} {ops : Array Oper} {rest : List Oper} {o : Oper} {a : Act} {Q : Exit → Act → World → Prop} (hg : o.guard = none) (t kt et : TypeId) (m : Operand) (hop : o.op = Op.range t m) (ht : P.underlying t = some (.map kt et)) (ek : κ → Value) (ev : ν → Value) (b : Nat) (L : List (κ × ν))
    (hm : MapAt w b ek ev L) (hx : a.eval m = .map (some b))
    (h : ∀ r w', w.heap.size = r → Ranging w' b r ek ev L (fun _ => true) → Mod (fun _ => False) w w' → w'.heap.size = r + 1 → wpList P ops Q rest (a.put o.dst (.pointer (some ⟨r, 0, none⟩))) w') : wpList P ops Q (o :: rest) a w := by
  refine wpList_plain hg fun K hK => ?_
  obtain ⟨es, c, hb, hes, hc, hn⟩ := hm.rep
  unfold Oper.wp
  have hrun : (Instr.range t (.map (some b))).run P w = .ok (.pointer (some ⟨w.heap.size, 0, none⟩)) (w.alloc (.mapIter (some b) c #[] c)) := by
    simp [Instr.range, run_underlying ht, run_getObj_map' hb]
  have : (execOp a.eval o).run P w = .ok (.value (.pointer (some ⟨w.heap.size, 0, none⟩))) (w.alloc (.mapIter (some b) c #[] c)) := by
    simp [execOp, hop, hx, hrun]
  rw [this]
  refine hK _ _ (h _ _ rfl ⟨hm.nd, es, c, c, #[], c, (Below.heap_alloc _ _ _ hm.lt).trans hb, hes, hc, hn, heap_alloc_new w _, hc, Nat.le_refl _, Nat.le_refl _, fun i e p _ _ => by simp⟩ (Mod.alloc _ _ _) (by simp))
end
section
variable {κ ν : Type} [DecidableEq κ]
/-- How many are still to come. -/
def cntL (L : List (κ × ν)) (left : κ → Bool) : Nat := (L.filter fun p => left p.1).length
theorem cntL_lt {L : List (κ × ν)} {left : κ → Bool} {p : κ × ν} (hp : p ∈ L) (hl : left p.1 = true) : cntL L (fun k => left k && !decide (k = p.1)) < cntL L left := by
  unfold cntL
  have e : (L.filter fun q => left q.1 && !decide (q.1 = p.1)) = (L.filter fun q => left q.1).filter fun q => !decide (q.1 = p.1) := by rw [List.filter_filter]; congr; funext q; rw [Bool.and_comm]
  rw [e]
  refine Nat.lt_of_le_of_ne (List.length_filter_le _ _) fun h => ?_
  have := (List.length_filter_eq_length_iff).1 h p (List.mem_filter.2 ⟨hp, hl⟩)
  simp at this
theorem wpList_next {P : Program} {w : World} {ops : Array Oper} {rest : List Oper} {o : Oper} {a : Act} {Q : Exit → Act → World → Prop} (hg : o.guard = none) (it : Operand) (hop : o.op = Op.next it false) (ek : κ → Value) (ev : ν → Value) (b r : Nat) (L : List (κ × ν)) (left : κ → Bool)
    (hit : a.eval it = .pointer (some ⟨r, 0, none⟩)) (hR : Ranging w b r ek ev L left)
    (hDone : (∀ p ∈ L, left p.1 = false) → wpList P ops Q rest (a.put o.dst (.tuple #[.bool false])) w)
    (hMore : ∀ (p : κ × ν) (w' : World), p ∈ L → left p.1 = true → Ranging w' b r ek ev L (fun k => left k && !decide (k = p.1)) → Mod (· = r) w w' → (Instr.entry (.pointer (some ⟨r, 0, none⟩))).run P w' = .ok (.tuple #[ek p.1, ev p.2]) w' → wpList P ops Q rest (a.put o.dst (.tuple #[.bool true, ek p.1, ev p.2])) w') : wpList P ops Q (o :: rest) a w := by
  refine wpList_plain hg fun K hK => ?_
  have hne := hR.ne
  have hlt := hR.lt
  have hnd := hR.nd
  obtain ⟨es, clock, since, seen, c0, hb, hes, hc, hn, hr, hold, hsc, hsk, hl⟩ := hR.rep
  have hlen := size_of_rep hes
  unfold Oper.wp
  rcases run_next_at (P := P) w o.type r b since c0 seen es clock hr hb hold hsc with ⟨h0, hrun⟩ | ⟨e, he, w1, hw1, hrun⟩
  · have : (execOp a.eval o).run P w = .ok (.value (.tuple #[.bool false])) w := by simp [execOp, hop, hit, hrun]
    rw [this]
    refine hK _ _ (hDone fun p hp => ?_)
    obtain ⟨i, hi⟩ := List.mem_iff_getElem?.1 hp
    have hil : i < es.toList.length := by
      have := (List.getElem?_eq_some_iff.1 hi).1
      simp; omega
    rw [hl i _ p (List.getElem?_eq_getElem hil) hi]
    have hs : (es.filter fun e => !seen.contains e.born) = #[] := Array.eq_empty_of_size_eq_zero h0
    have := Array.filter_eq_empty_iff.1 hs (es.toList[i]) (by rw [← Array.mem_toList_iff]; exact List.getElem_mem hil)
    simpa using this
  · have hmem : e ∈ es.toList ∧ seen.contains e.born = false := by
      unfold leftOf at he
      simpa using he
    obtain ⟨i, hi⟩ := List.mem_iff_getElem?.1 hmem.1
    have hil : i < L.length := by
      have := (List.getElem?_eq_some_iff.1 hi).1
      simp at this; omega
    obtain ⟨p, hp⟩ : ∃ p, L[i]? = some p := ⟨_, List.getElem?_eq_getElem hil⟩
    have hkv : (e.key, e.val) = (ek p.1, ev p.2) := by
      have e1 := congrArg (fun l => l[i]?) hes
      simp only [List.getElem?_map, hi, hp, Option.map_some] at e1
      exact Option.some.inj e1
    injection hkv with hk1 hk2
    have hw1' : w1.heap = w.heap ∧ w1.os = w.os ∧ w1.tape = w.tape ∧ w1.output = w.output := by
      rcases hw1 with rfl | rfl
      · exact ⟨rfl, rfl, rfl, rfl⟩
      · exact ⟨rfl, rfl, rfl, rfl⟩
    have hM : Mod (· = r) w (ChangeMaps.setBlock w1 r (.mapIter (some b) since (seen.push e.born) clock)) := by
      refine ⟨hw1'.2.1, hw1'.2.2.1, hw1'.2.2.2, ?_, fun k hk hkr => ?_⟩
      · simp [ChangeMaps.setBlock, hw1'.1]
      · simp [ChangeMaps.setBlock, hw1'.1, Array.getElem?_set, Ne.symm hkr]
    have hb2 : (ChangeMaps.setBlock w1 r (.mapIter (some b) since (seen.push e.born) clock)).heap[b]? = some (.map es clock) := (hM.block b hlt.1 (Ne.symm hne)).trans hb
    have hr2 : (ChangeMaps.setBlock w1 r (.mapIter (some b) since (seen.push e.born) clock)).heap[r]? = some (.mapIter (some b) since (seen.push e.born) clock) := by
      simp [ChangeMaps.setBlock, hw1'.1, hlt.2]
    have : (execOp a.eval o).run P w = .ok (.value (.tuple #[.bool true, e.key, e.val])) (ChangeMaps.setBlock w1 r (.mapIter (some b) since (seen.push e.born) clock)) := by simp [execOp, hop, hit, hrun]
    rw [this, hk1, hk2]
    refine hK _ _ (hMore p _ (List.mem_of_getElem? hp) (by rw [hl i e p hi hp, hmem.2]; rfl) ⟨hnd, es, clock, since, seen.push e.born, clock, hb2, hes, hc, hn, hr2, hold, hsk, hsk, fun j e' p' hj hp' => ?_⟩ hM (by rw [← hk1, ← hk2]; exact run_entry_at _ r b since seen es clock e hr2 hb2 hmem.1 hn))
    rw [hl j e' p' hj hp', Array.contains_push, Bool.not_or]
    congr 1
    have hji : p'.1 = p.1 ↔ e'.born = e.born := by
      have e1 : (L.map (·.1))[j]? = some p'.1 := by simp [hp']
      have e2 : (L.map (·.1))[i]? = some p.1 := by simp [hp]
      have e3 : (es.toList.map (·.born))[j]? = some e'.born := by simp [hj]
      have e4 : (es.toList.map (·.born))[i]? = some e.born := by simp [hi]
      have l1 := (List.getElem?_eq_some_iff.1 e1).1
      have l3 := (List.getElem?_eq_some_iff.1 e3).1
      constructor
      · intro h
        have : j = i := (List.getElem?_inj l1 hnd).1 (by rw [e1, e2, h])
        subst this
        rw [hi] at hj; cases hj; rfl
      · intro h
        have : j = i := (List.getElem?_inj l3 hn).1 (by rw [e3, e4, h])
        subst this
        rw [hp] at hp'; cases hp'; rfl
    by_cases h : p'.1 = p.1
    · rw [decide_eq_true h]; simp [hji.1 h]
    · rw [decide_eq_false h]
      have : ¬ e'.born = e.born := fun h' => h (hji.2 h')
      simp [this]
end
section
variable {κ ν : Type}
/-- A map that is gone over, as an assertion. -/
def rngA (b r : Nat) (ek : κ → Value) (ev : ν → Value) (L : List (κ × ν)) (left : κ → Bool) : Asr where
  fp k := k = b ∨ k = r
  holds w := Ranging w b r ek ev L left
  lt h hk := by
    rcases hk with rfl | rfl
    · exact h.lt.1
    · exact h.lt.2
  loc h m := h.keep (m b (.inl rfl)) (m r (.inr rfl))
variable {F : Nat → Prop} {w0 w w' : World} {A : List Asr}
theorem St.ranged (h : St F w0 w A) (i : Nat) {b r : Nat} {ek : κ → Value} {ev : ν → Value} {L : List (κ × ν)} {left : κ → Bool} (hi : A[i]? = some (mapA b ek ev L)) (hr : w.heap.size = r) (hR : Ranging w' b r ek ev L left) (m : Mod (fun _ => False) w w') : St F w0 w' (A.set i (rngA b r ek ev L left)) :=
  h.upd i hi (m.mono fun k _ h => h.elim) hR fun k hk => hk.imp id fun e => by omega
theorem St.next (h : St F w0 w A) (i : Nat) {b r : Nat} {ek : κ → Value} {ev : ν → Value} {L : List (κ × ν)} {left left' : κ → Bool} (hi : A[i]? = some (rngA b r ek ev L left)) (hR : Ranging w' b r ek ev L left') (m : Mod (· = r) w w') : St F w0 w' (A.set i (rngA b r ek ev L left')) :=
  h.upd i hi (m.mono fun k _ h => .inr h) hR fun k hk => .inl hk
theorem St.unranged (h : St F w0 w A) (i : Nat) {b r : Nat} {ek : κ → Value} {ev : ν → Value} {L : List (κ × ν)} {left : κ → Bool} (hi : A[i]? = some (rngA b r ek ev L left)) : St F w0 w (A.set i (mapA b ek ev L)) :=
  h.upd i hi (Mod.refl _ _) (h.get i hi).map fun k hk => .inl (.inl hk)
end
end Go.Tat
