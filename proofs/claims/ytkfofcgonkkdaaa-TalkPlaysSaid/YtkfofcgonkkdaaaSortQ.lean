/- slices.SortFunc at a struct: from the shelf's words to rows. -/
import Derived.Test.YtkfofcgonkkdaaaFlat
import Derived.Shelf.SlSortCmp.NoneTotal
namespace Go.Tat
open Go.RowKit Go.Proofs.YtkfofcgonkkdaaaW.PrintWords
section
variable {α : Type} [Inhabited α] {d : Kd α} {enc : α → List Value}
theorem flatK_toList (F : Flat d enc) (D : Array α) : (Sort.flatK enc d.sz D).toList = D.toList.flatMap enc := by
  have hfl := flat_len F.len D.toList
  apply List.ext_getElem?
  intro t
  by_cases ht : t < D.size * d.sz
  · have hp : 0 < d.sz := Nat.pos_of_ne_zero fun e => by rw [e] at ht; omega
    have hq : t / d.sz < D.size := Nat.div_lt_of_lt_mul (by rw [Nat.mul_comm]; exact ht)
    have hr := Nat.mod_lt t hp
    have hd : (t / d.sz) * d.sz + t % d.sz = t := by rw [Nat.mul_comm]; exact Nat.div_add_mod t d.sz
    have h1 := flat_get F.len D.toList (t / d.sz) (t % d.sz) (D[t / d.sz]) (by simp [hq]) hr
    rw [hd] at h1
    rw [h1, List.getElem?_eq_getElem (by rw [Array.length_toList, Sort.size_flatK]; exact ht)]
    have h2 := Sort.get_flatK enc d.sz D t ht
    rw [getElem!_pos _ t (by rw [Sort.size_flatK]; exact ht), getElem!_pos D (t / d.sz) hq] at h2
    have hl : t % d.sz < (enc D[t / d.sz]).length := by rw [F.len]; exact hr
    rw [getElem!_pos (enc D[t / d.sz]) (t % d.sz) hl] at h2
    rw [List.getElem?_eq_getElem hl, Array.getElem_toList, h2]
  · rw [List.getElem?_eq_none (by rw [Array.length_toList, Sort.size_flatK]; omega), List.getElem?_eq_none (by rw [hfl, Array.length_toList]; omega)]
theorem Row.holds (F : Flat d enc) {w : World} {b e : Nat} {xs : List α} {ex : List Value} (h : Row w b e enc xs ex) : Sort.HoldsK enc d.sz w b 0 xs.toArray := by
  obtain ⟨cur, hb, hc⟩ := h.rep
  intro j hj
  have hfl := flat_len F.len xs
  rw [Sort.size_flatK] at hj
  have hj' : j < xs.length * d.sz := by simpa using hj
  refine ⟨?_, by rw [Nat.zero_add]; exact blk_frozen hb j⟩
  rw [Nat.zero_add, blk_cell hb, ← Array.getElem?_toList, hc, List.getElem?_append_left (by omega), getElem!_pos _ j (by rw [Sort.size_flatK]; exact hj)]
  have h1 := flatK_toList F xs.toArray
  have h2 : (Sort.flatK enc d.sz xs.toArray).toList[j]? = (xs.flatMap enc)[j]? := by rw [h1]
  rw [← h2, Array.getElem?_toList, Array.getElem?_eq_getElem (by rw [Sort.size_flatK]; exact hj)]
  rfl
/-- What a sort leaves. -/
theorem sort_row (F : Flat d enc) {w : World} {b e : Nat} {xs : List α} {ex : List Value} (h : Row w b e enc xs ex) (n : Nat) (os : Array Obj) (D : Array α) (hD : D.size = xs.length) :
    Row (Go.Proofs.sortWorldK enc d.sz w b 0 n D os) b e enc D.toList ex ∧ Mod (· = b) w (Go.Proofs.sortWorldK enc d.sz w b 0 n D os) := by
  have hlt := h.lt
  obtain ⟨cur, hb, hc⟩ := h.rep
  have hfl := flat_len F.len xs
  have hcs : (Sort.flatK enc d.sz D).size ≤ cur.size := by
    rw [Sort.size_flatK, hD, ← Array.length_toList, hc, List.length_append, hfl]; omega
  have hheap : (Go.Proofs.sortWorldK enc d.sz w b 0 n D os).heap = (w.heap.modify b (Sort.onCells (Sort.putCells id 0 (Sort.flatK enc d.sz D)))) ++ os := rfl
  have hput : (Sort.putCells id 0 (Sort.flatK enc d.sz D) cur).toList = D.toList.flatMap enc ++ ex := by
    rw [← flatK_toList F D]
    have hex : ex = cur.toList.drop (Sort.flatK enc d.sz D).size := by
      rw [hc, Sort.size_flatK, hD, List.drop_left' hfl]
    rw [hex]
    apply List.ext_getElem?
    intro t
    unfold Sort.putCells
    rw [Array.getElem?_toList, Array.getElem?_mapIdx]
    by_cases ht : t < (Sort.flatK enc d.sz D).size
    · rw [List.getElem?_append_left (by simpa using ht), Array.getElem?_eq_getElem (by omega), Array.getElem?_toList, Array.getElem?_eq_getElem ht]
      simp only [Option.map_some]
      rw [if_pos ⟨Nat.zero_le _, by omega⟩, Nat.sub_zero, getElem!_pos _ t ht]
      rfl
    · rw [List.getElem?_append_right (by simpa using Nat.le_of_not_lt ht), List.getElem?_drop, Array.length_toList, show (Sort.flatK enc d.sz D).size + (t - (Sort.flatK enc d.sz D).size) = t by omega, Array.getElem?_toList]
      cases cur[t]? with
      | none => rfl
      | some v => simp only [Option.map_some]; rw [if_neg (by omega)]
  refine ⟨⟨Sort.putCells id 0 (Sort.flatK enc d.sz D) cur, ?_, hput⟩, ⟨rfl, rfl, rfl, ?_, fun k hk hkb => ?_⟩⟩
  · rw [hheap, Array.getElem?_append_left (by simpa using hlt), Array.getElem?_modify, if_pos rfl, hb]
    rfl
  · rw [hheap]; simp
  · rw [hheap, Array.getElem?_append_left (by simpa using hk), Array.getElem?_modify, if_neg (fun e => hkb e.symm)]
theorem perm_of_in {D D' : Array α} (h : Sort.PermIn 0 D.size D D') : D'.size = D.size ∧ D'.toList.Perm D.toList := by
  obtain ⟨h1, _, h3⟩ := h
  refine ⟨h1, ?_⟩
  have e1 : D.extract 0 D.size = D := by simp
  have e2 : D'.extract 0 D.size = D' := by rw [← h1]; simp
  rw [e1, e2] at h3
  exact h3
theorem sorted_of_in {lt : α → α → Bool} {D : Array α} {n : Nat} (hn : n = D.size) (h : Sort.SortedIn lt 0 n D) : D.toList.Pairwise (fun x y => lt y x = false) := by
  subst hn
  rw [List.pairwise_iff_getElem]
  intro i j hi hj hij
  have := h i j (Nat.zero_le _) hij (by simpa using hj)
  rw [getElem!_pos D i (by simpa using hi), getElem!_pos D j (by simpa using hj)] at this
  simpa using this
end
end Go.Tat
