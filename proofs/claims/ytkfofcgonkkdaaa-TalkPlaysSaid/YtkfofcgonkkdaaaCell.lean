/- One cell of a row's element is stored. -/
import Derived.Test.YtkfofcgonkkdaaaFlat
namespace Go.Tat
open Go.RowKit Go.Proofs.YtkfofcgonkkdaaaW.PrintWords
variable {α : Type} {d : Kd α} {enc : α → List Value}
theorem flat_put {s : Nat} (hs : ∀ x, (enc x).length = s) : ∀ (xs : List α) (i c : Nat) (x y : α) (v : Value), xs[i]? = some x → c < s → enc y = (enc x).set c v → (xs.set i y).flatMap enc = (xs.flatMap enc).set (i * s + c) v
  | [], i, c, x, y, v, h, _, _ => by simp at h
  | x0 :: xs, 0, c, x, y, v, h, hc, hy => by
    simp only [List.getElem?_cons_zero, Option.some.injEq] at h
    subst h
    simp only [List.set_cons_zero, List.flatMap_cons, Nat.zero_mul, Nat.zero_add]
    rw [List.set_append_left _ _ (by rw [hs]; exact hc), hy]
  | x0 :: xs, i + 1, c, x, y, v, h, hc, hy => by
    simp only [List.getElem?_cons_succ] at h
    simp only [List.set_cons_succ, List.flatMap_cons]
    rw [flat_put hs xs i c x y v h hc hy, List.set_append_right _ _ (by rw [hs, Nat.succ_mul]; omega), hs, show (i + 1) * s + c - s = i * s + c by rw [Nat.succ_mul]; omega]
theorem Row.put (F : Flat d enc) {w : World} {b e : Nat} {xs : List α} {ex : List Value} (hR : Row w b e enc xs ex) {i c : Nat} {x y : α} {v : Value} (hi : xs[i]? = some x) (hc : c < d.sz) (hy : enc y = (enc x).set c v) : Row (w.setCell ⟨b, i * d.sz + c, none⟩ v) b e enc (xs.set i y) ex := by
  obtain ⟨cur, hb, hcu⟩ := hR.rep
  have h := blk_set (g := b) (w := w) hb (i * d.sz + c) v
  have hm := Nat.mul_le_mul_right d.sz (show i + 1 ≤ xs.length from (List.getElem?_eq_some_iff.1 hi).1)
  rw [Nat.succ_mul] at hm
  refine ⟨_, h, ?_⟩
  rw [Array.toList_setIfInBounds, hcu, List.set_append_left _ _ (by rw [flat_len F.len]; omega), flat_put F.len xs i c x y v hi hc hy]
theorem St.put (F : Flat d enc) {Fp : Nat → Prop} {w0 w : World} {L : List Asr} (h : St Fp w0 w L) (k : Nat) {e g n cap : Nat} {xs : List α} (hk : L[k]? = some (slc d e (.slice (some ⟨g, 0, none⟩) n cap) xs)) {i c : Nat} {x y : α} {v : Value} (hi : xs[i]? = some x) (hc : c < d.sz) (hy : enc y = (enc x).set c v) : St Fp w0 (w.setCell ⟨g, i * d.sz + c, none⟩ v) (L.set k (slc d e (.slice (some ⟨g, 0, none⟩) n cap) (xs.set i y))) := by
  have hS := h.get k hk
  refine h.upd k hk (Mod.setCell (by simp [slc, slcF, Value.ownBlock]) v) ((slc_iff F).2 ?_) fun _ hk => .inl hk
  rcases (slc_iff F).1 hS with ⟨hv, _⟩ | ⟨g', cp, ex, hv, hR, h1, h2, h3⟩
  · injection hv with h1; cases h1
  · injection hv with a1 a2 a3
    injection a1 with a1
    injection a1 with a1
    subst a1; subst a2; subst a3
    exact .inr ⟨_, _, ex, by rw [List.length_set], hR.put F hi hc hy, by rw [List.length_set]; exact h1, h2, by rw [List.length_set]; exact h3⟩
theorem St.elem (F : Flat d enc) {Fp : Nat → Prop} {w0 w : World} {L : List Asr} (h : St Fp w0 w L) (k : Nat) {e g n cap : Nat} {xs : List α} (hk : L[k]? = some (slc d e (.slice (some ⟨g, 0, none⟩) n cap) xs)) {i c : Nat} {x : α} (hi : xs[i]? = some x) (hc : c < d.sz) : w.cell? ⟨g, i * d.sz + c, none⟩ = (enc x)[c]? ∧ w.frozen? ⟨g, i * d.sz + c, none⟩ = false := by
  rcases (slc_iff F).1 (h.get k hk) with ⟨hv, _⟩ | ⟨g', cp, ex, hv, hR, _⟩
  · injection hv with h1; cases h1
  · injection hv with a1 a2 a3
    injection a1 with a1
    injection a1 with a1
    subst a1
    exact ⟨hR.cell F.len hi hc, hR.fz _⟩
/-- A method that changes one object and gives new things. -/
theorem St.exUpd2 {F Fp : Nat → Prop} {w0 w w' : World} {A : List Asr} (h : St F w0 w A) (i : Nat) {ι κ : Type} {L0 : ι → List Asr} (hi : A[i]? = some (Asr.ex Fp L0)) {L1 : κ → List Asr} (j : κ) {M : List Asr} (h' : St Fp w w' (L1 j ++ M)) : St F w0 w' (A.set i (Asr.ex (fpsL (L1 j)) L1) ++ M) := by
  have h1 := h.exUpd i hi (L1 := L1) j (h'.sub (List.sublist_append_left _ _))
  have hin : ∀ b ∈ M, ∀ k, b.fp k → k < w.heap.size → Fp k := fun b hb => h'.inn b (List.mem_append_right _ hb)
  refine ⟨Sat.adds h1.sat (h'.sat.sub (List.sublist_append_right _ _)) fun a ha b hb => ?_, fun b hb k hk hl => ?_, h1.mod⟩
  · obtain ⟨n, hn⟩ := List.getElem?_of_mem ha
    by_cases e : n = i
    · subst e
      have hlt := (List.getElem?_eq_some_iff.1 hi).1
      rw [List.getElem?_set_self hlt] at hn
      injection hn with hn
      subst hn
      rintro k ⟨c, hc, hk⟩ hkb
      exact (List.pairwise_append.1 h'.sat.dis).2.2 c hc b hb k hk hkb
    · rw [List.getElem?_set_ne (fun h => e h.symm)] at hn
      intro k hk hkb
      have hlt := a.lt (h.get n hn) hk
      have hF := hin b hb k hkb hlt
      rcases Nat.lt_or_gt_of_ne e with h2 | h2
      · exact h.ne n i hn hi h2 k hk hF
      · exact h.ne i n hi hn h2 k hF hk
  · rcases List.mem_append.1 hb with hb | hb
    · exact h1.inn b hb k hk hl
    · have hm := h.mod.size
      exact h.inn _ (List.mem_of_getElem? hi) k (hin b hb k hk (by omega)) hl
end Go.Tat
