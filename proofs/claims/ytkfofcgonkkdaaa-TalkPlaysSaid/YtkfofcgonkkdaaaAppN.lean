/- append of a row; an empty row made. -/
import Derived.Test.YtkfofcgonkkdaaaApp
import Derived.Test.YtkfofcgonkkdaaaMore
namespace Go.Tat
open Go.RowKit Go.Proofs.YtkfofcgonkkdaaaW.PrintWords
theorem wpList_appN {P : Program} {ops : Array Oper} {rest : List Oper} {o : Oper} {a : Act} {Q : Exit → Act → World → Prop} {α : Type} {d : Kd α} {enc : α → List Value} (F : Flat d enc) {W : World} (hgd : o.guard = none) (s x : Operand) (t e : TypeId) (z : Value) (bytes : Nat)
    (ho : o.op = .call { callee := .builtin .append, args := #[s, x], argTypes := #[t, t] })
    (ht : P.underlying t = some (.slice e)) (hinfo : (P.info? e).map (fun i => (i.zero, i.size, i.bytes)) = some (some z, d.sz, bytes)) (hz : z.cells.size = d.sz) (hs0 : 0 < d.sz) (hb0 : 0 < bytes)
    (v : Value) (xs ys : List α) (A : Option Addr) (c : Nat) (ok : Nat → Prop) (hs : a.eval s = v) (hx : a.eval x = .slice A ys.length c)
    (HO : d.R e W 0 ok v xs) (HR : d.C W A ys.length ys) (hl : (xs.length + ys.length) * bytes ≤ 140737488355328)
    (h : ∀ (T : List α) A c w1, T = xs ++ ys → d.R e w1 0 (fun k => ok k ∨ W.heap.size ≤ k) (.slice A T.length c) T → Mod (fun k => v.ownBlock = some k) W w1 → (∀ k, (Value.slice A T.length c).ownBlock = some k → v.ownBlock = some k ∨ W.heap.size ≤ k) → wpList P ops Q rest (a.put o.dst (.slice A T.length c)) w1) :
    wpList P ops Q (o :: rest) a W := by
  refine Kd.R_append_rows d (Rr := d.K W) (w0 := W) 0 hgd s x t e z bytes ho ht hinfo hz hs0 hb0 v xs ys A ys.length c (fun k => ok k ∨ W.heap.size ≤ k) (fun _ => False) hs hx (Kd.R_mono HO fun k hk => .inl hk) HR (fun x cs hK => F.M.2 (F.K.1 hK)) (fun k hk => hk.elim) (fun k hk => .inr hk) ⟨rfl, rfl, rfl, Nat.le_refl _, fun k hk => absurd hk (Nat.not_lt_zero _)⟩ (Nat.zero_le _) hl ?_
  intro v1 w1 hR _ hg hat
  obtain ⟨A, c, rfl⟩ := Kd.R_slice hR
  refine h _ A c w1 rfl hR (Mod.of_grown hg fun k _ hk => hk) fun k hk => ?_
  rcases hat with e | ⟨b, e, hb⟩
  · exact .inl (e ▸ hk)
  · rw [e] at hk; cases hk; exact .inr hb
theorem step_appN {P : Program} {ops : Array Oper} {o : Oper} {a : Act} {Q : Exit → Act → World → Prop} {Kc : Act → World → Prop} {α : Type} {d : Kd α} {enc : α → List Value} (F : Flat d enc) {W : World} (hw : Region.wanted o (yielded ops a.tmps) = true) (s x : Operand) (t e : TypeId) (z : Value) (bytes : Nat)
    (ho : o.op = .call { callee := .builtin .append, args := #[s, x], argTypes := #[t, t] })
    (ht : P.underlying t = some (.slice e)) (hinfo : (P.info? e).map (fun i => (i.zero, i.size, i.bytes)) = some (some z, d.sz, bytes)) (hz : z.cells.size = d.sz) (hs0 : 0 < d.sz) (hb0 : 0 < bytes)
    (v : Value) (xs ys : List α) (A : Option Addr) (c : Nat) (ok : Nat → Prop) (hs : a.eval s = v) (hx : a.eval x = .slice A ys.length c)
    (HO : d.R e W 0 ok v xs) (HR : d.C W A ys.length ys) (hl : (xs.length + ys.length) * bytes ≤ 140737488355328)
    (h : ∀ (T : List α) A c w1, T = xs ++ ys → d.R e w1 0 (fun k => ok k ∨ W.heap.size ≤ k) (.slice A T.length c) T → Mod (fun k => v.ownBlock = some k) W w1 → (∀ k, (Value.slice A T.length c).ownBlock = some k → v.ownBlock = some k ∨ W.heap.size ≤ k) → Kc (a.put o.dst (.slice A T.length c)) w1) :
    if Region.wanted o (yielded ops a.tmps) = true then Oper.wp P o a W Kc Q else Kc (a.put o.dst undef) W := by
  refine Kd.R_append_rows_step d (Rr := d.K W) (w0 := W) 0 hw s x t e z bytes ho ht hinfo hz hs0 hb0 v xs ys A ys.length c (fun k => ok k ∨ W.heap.size ≤ k) (fun _ => False) hs hx (Kd.R_mono HO fun k hk => .inl hk) HR (fun x cs hK => F.M.2 (F.K.1 hK)) (fun k hk => hk.elim) (fun k hk => .inr hk) ⟨rfl, rfl, rfl, Nat.le_refl _, fun k hk => absurd hk (Nat.not_lt_zero _)⟩ (Nat.zero_le _) hl ?_
  intro v1 w1 hR _ hg hat
  obtain ⟨A, c, rfl⟩ := Kd.R_slice hR
  refine h _ A c w1 rfl hR (Mod.of_grown hg fun k _ hk => hk) fun k hk => ?_
  rcases hat with e | ⟨b, e, hb⟩
  · exact .inl (e ▸ hk)
  · rw [e] at hk; cases hk; exact .inr hb
/-- An empty row that isn't nil. -/
theorem slc_empty {α : Type} {d : Kd α} {enc : α → List Value} (F : Flat d enc) {e b : Nat} {w : World} (h : w.heap[b]? = some (.cells #[] e (0, 0))) : (slc d e (.slice (some ⟨b, 0, none⟩) 0 0) []).holds w :=
  (slc_iff F).2 (.inr ⟨b, 0, [], rfl, ⟨#[], h, rfl⟩, Nat.le_refl _, Nat.zero_le _, by simp⟩)
theorem St.empty {α : Type} {d : Kd α} {enc : α → List Value} (F : Flat d enc) {Fp : Nat → Prop} {w0 w : World} {A : List Asr} (h : St Fp w0 w A) (e b : Nat) (hb : w.heap.size = b) : St Fp w0 (w.alloc (.cells #[] e)) (A ++ [slc d e (.slice (some ⟨b, 0, none⟩) 0 0) []]) := by
  subst hb
  refine h.add ((Below.refl _ _).alloc (Nat.le_refl _) _) (slc_empty F (heap_alloc_new w _)) fun k hk => ?_
  have e : w.heap.size = k := by simpa [slcF, Value.ownBlock] using hk
  omega
/-- A row written out. -/
theorem slc_lit {α : Type} {d : Kd α} {enc : α → List Value} (F : Flat d enc) {e b : Nat} {w : World} (xs : List α) (cs : Array Value) (hcs : cs.toList = xs.flatMap enc) (h : w.heap[b]? = some (.cells cs e (0, 0))) (hl : xs.length ≤ maxLen) : (slc d e (.slice (some ⟨b, 0, none⟩) xs.length xs.length) xs).holds w :=
  (slc_iff F).2 (.inr ⟨b, xs.length, [], rfl, ⟨cs, h, by rw [hcs, List.append_nil]⟩, Nat.le_refl _, hl, by simp⟩)
/-- What a printed contract gives, as a bundle. -/
theorem St.ofR {α : Type} {d : Kd α} {e : Nat} {w w' : World} {ok : Nat → Prop} {v : Value} {xs : List α} (h : d.R e w' w.heap.size ok v xs) (hE : d.E = []) (b : Below w.heap.size w w') : St (fun _ => False) w w' [slc d e v xs] := by
  have h0 := St.nil (fun _ => False) w
  have h1 := h0.add (a := slc d e v xs) b (slc_of h hE) (fun k hk => by
    obtain ⟨_, inner, ⟨_, ho⟩, _⟩ := h
    rcases ho with ⟨rfl, _⟩ | ⟨g, cap, cur, rfl, hg, _⟩
    · simp [slcF, Value.ownBlock] at hk
    · have e : g = k := by simpa [slcF, Value.ownBlock] using hk
      omega)
  exact h1
/-- A part of a row that came in. -/
theorem C_dropped {k : IntKind} {P : Program} (t e : TypeId) {i : TypeInfo} (ht : P.underlying t = some (.slice e)) (hi : P.info? e = some i) (hsz : i.size = 1) (A : Option Addr) (c : Nat) (xs : List Int) (j : Nat) (hj : j ≤ xs.length) (hc : xs.length ≤ c) :
    ∃ A' : Option Addr, (∀ W : World, (Instr.slice t (.slice A xs.length c) (some (.int .i64 (j : Int))) none none).run P W = .ok (.slice A' (xs.drop j).length (c - j)) W) ∧
      (∀ w : World, (Kd.int k).C w A xs.length xs → (Kd.int k).C w A' (xs.drop j).length (xs.drop j)) ∧ (xs.drop j).length ≤ c - j := by
  obtain ⟨A', h1, h2, h3⟩ := print_drop_of (Value.int k) 0 t e .i64 ht hi hsz A c xs (j : Int) (by omega) (by omega) hc
  exact ⟨A', h1, fun w h => Kd.C_of_reads (h2 w (Kd.reads_of_C (d := 0) h)), h3⟩
end Go.Tat
