/- More of assertions: what a call made anew, beside what was there. -/
import Derived.Test.YtkfofcgonkkdaaaSL
namespace Go.Tat
open Go.RowKit Go.Proofs.YtkfofcgonkkdaaaW.PrintWords
theorem St.adds {F : Nat → Prop} {w0 w w' : World} {A M : List Asr} (h : St F w0 w A) (h' : St (fun _ => False) w w' M) : St F w0 w' (A ++ M) := by
  have hb : Below w.heap.size w w' := h'.mod.below (Nat.le_refl _) (by simp)
  have h1 := h.below hb
  have hn : ∀ b ∈ M, ∀ k, b.fp k → w.heap.size ≤ k := fun b hbm k hk => by
    rcases Nat.lt_or_ge k w.heap.size with h2 | h2
    · exact (h'.inn b hbm k hk h2).elim
    · exact h2
  refine ⟨Sat.adds h1.sat h'.sat fun a ha b hb k hk hk' => ?_, fun b hb k hk hl => ?_, h1.mod⟩
  · have := a.lt (h.sat.all a ha) hk
    have := hn b hb k hk'
    omega
  · rcases List.mem_append.1 hb with hb | hb
    · exact h1.inn b hb k hk hl
    · have := hn b hb k hk
      have := h.mod.size
      omega
/-- A block of values, read as a row of elements of one cell. -/
theorem C_vals {α : Type} {d : Kd α} (hd : d.sz = 1) {w : World} {b : Nat} {t : TypeId} (xs : List α) (vs : List Value) (h : w.heap[b]? = some (.cells vs.toArray t (0, 0))) (hlen : xs.length = vs.length) (hmax : xs.length ≤ 9223372036854775807) (hK : ∀ (j : Nat) (x : α) (v : Value), xs[j]? = some x → vs[j]? = some v → d.K w x [v]) : d.C w (some ⟨b, 0, none⟩) xs.length xs := by
  refine ⟨rfl, hmax, fun _ => ⟨_, rfl, fun j x hx => ?_⟩⟩
  have hj := (List.getElem?_eq_some_iff.1 hx).1
  obtain ⟨v, hv⟩ : ∃ v, vs[j]? = some v := ⟨_, List.getElem?_eq_getElem (by omega)⟩
  refine ⟨[v], by rw [hd]; rfl, hK j x v hx hv, fun i u hu => ?_⟩
  have hi := (List.getElem?_eq_some_iff.1 hu).1
  have hi0 : i = 0 := by simp at hi; exact hi
  subst hi0
  rw [hd]
  have e : (⟨b, 0, none⟩ : Addr).add (j * 1 + 0) = ⟨b, j, none⟩ := by
    rw [Nat.mul_one, Nat.add_zero]
    unfold Addr.add
    split
    · rename_i h0; rw [h0]
    · rw [Nat.zero_add]
  rw [e, blk_cell h, List.getElem?_toArray, hv]
  exact hu
theorem C_ints {k : IntKind} {w : World} {b : Nat} {t : TypeId} (xs : List Int) (h : w.heap[b]? = some (.cells (xs.map (Value.int k)).toArray t (0, 0))) (hmax : xs.length ≤ 9223372036854775807) : (Kd.int k).C w (some ⟨b, 0, none⟩) xs.length xs := by
  refine C_vals rfl xs _ h (by simp) hmax fun j x v hx hv => ?_
  rw [List.getElem?_map, hx] at hv
  cases hv
  rfl
theorem C_slice1 {α : Type} {d : Kd α} {e : Nat} {w : World} {b : Nat} {t : TypeId} {A : Option Addr} {c : Nat} {xs : List α} (h : w.heap[b]? = some (.cells #[.slice A xs.length c] t (0, 0))) (hc : xs.length ≤ c) (hC : d.C w A xs.length xs) : (Kd.slice e d).C w (some ⟨b, 0, none⟩) 1 [xs] := by
  refine C_vals rfl [xs] [.slice A xs.length c] h rfl (by simp) fun j x v hx hv => ?_
  match j, hx, hv with
  | 0, hx, hv => cases hx; cases hv; exact ⟨A, c, rfl, hc, hC⟩
  | j + 1, hx, _ => simp at hx
theorem C_slice2 {α : Type} {d : Kd α} {e : Nat} {w : World} {b : Nat} {t : TypeId} {A B : Option Addr} {c c' : Nat} {xs ys : List α} (h : w.heap[b]? = some (.cells #[.slice A xs.length c, .slice B ys.length c'] t (0, 0))) (hc : xs.length ≤ c) (hC : d.C w A xs.length xs) (hc' : ys.length ≤ c') (hC' : d.C w B ys.length ys) : (Kd.slice e d).C w (some ⟨b, 0, none⟩) 2 [xs, ys] := by
  refine C_vals rfl [xs, ys] [.slice A xs.length c, .slice B ys.length c'] h rfl (by simp) fun j x v hx hv => ?_
  match j, hx, hv with
  | 0, hx, hv => cases hx; cases hv; exact ⟨A, c, rfl, hc, hC⟩
  | 1, hx, hv => cases hx; cases hv; exact ⟨B, c', rfl, hc', hC'⟩
  | j + 2, hx, _ => simp at hx
end Go.Tat
