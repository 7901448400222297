/- slices.Sort at strings: from the shelf's words to rows. -/
import Derived.Test.YtepceielndmjgaaFlat
import Derived.Test.YtepceielndmjgaaSortQ
import Derived.Test.YtepceielndmjgaaShelf
import Derived.Shelf.Sort.Plain
import Derived.Shelf.Slices.In.SortNone
namespace Go.Tat
open Go.RowKit Go.Proofs Go.Proofs.YtepceielndmjgaaW.PrintWords
def toB (l : List UInt8) : ByteArray := ⟨l.toArray⟩
def ofB (s : ByteArray) : List UInt8 := s.data.toList
theorem ofB_toB (l : List UInt8) : ofB (toB l) = l := by simp [ofB, toB]
theorem toB_ofB (s : ByteArray) : toB (ofB s) = s := by
  obtain ⟨a⟩ := s
  simp [ofB, toB]
abbrev encS (s : ByteArray) : List Value := [Value.string s]
theorem flS : Flat Kd.string encS := ⟨rfl, Iff.rfl, Iff.rfl⟩
instance : Inhabited ByteArray := ⟨ByteArray.empty⟩
theorem put_same (D : Array (List UInt8)) (c : Array Value) : Sort.putCells encStr 0 D c = Sort.putCells id 0 (Sort.flatK encS 1 (D.map toB)) c := by
  unfold Sort.putCells
  apply Array.ext_getElem?
  intro j
  rw [Array.getElem?_mapIdx, Array.getElem?_mapIdx]
  cases c[j]? with
  | none => rfl
  | some v =>
    simp only [Option.map_some]
    have hs : (Sort.flatK encS 1 (D.map toB)).size = D.size := by simp
    rw [hs]
    split
    · rename_i h
      have hj : j < D.size := by omega
      rw [Nat.sub_zero, Sort.get_flatK encS 1 _ j (by simpa using hj), Nat.div_one, Nat.mod_one, getElem!_pos D j hj, getElem!_pos (D.map toB) j (by simpa using hj)]
      simp [toB]
    · rfl
/-- The strings sorted, in the same block. -/
theorem sortS_c {P : Program} {ρ : Go.Shelf.Ren} (L : Lays.n190 P ρ) (v : Value) (xs : List ByteArray) (w : World) (hS : (slc Kd.string 9 v xs).holds w) (hl : xs.length < 4611686018427387904) :
    Calls P (ρ.f 190) #[v] w fun e w' => e = .returned (.tuple #[]) ∧ ∃ ys, ys.Perm xs ∧ ys.Pairwise (fun a b => ofB a ≤ ofB b) ∧ (slc Kd.string 9 v ys).holds w' ∧ Mod (fun k => v.ownBlock = some k) w w' := by
  rcases (slc_iff flS).1 hS with ⟨rfl, rfl⟩ | ⟨g, c, ex, rfl, hR, hc, hm, hex⟩
  · refine (Any.slices_Sort_string_none L none 0 w).mono ?_
    rintro e w' ⟨rfl, rfl⟩
    exact ⟨rfl, [], List.Perm.refl _, List.Pairwise.nil, slc_nil _ _ _, Mod.refl _ _⟩
  · have hH : Sort.Holds encStr w g 0 (xs.map ofB).toArray := by
      intro j hj
      have hj' : j < xs.length := by simpa using hj
      have h1 := hR.cell (s := 1) (fun _ => rfl) (i := j) (c := 0) (List.getElem?_eq_getElem hj') (by decide)
      rw [Nat.mul_one, Nat.add_zero] at h1
      rw [Nat.zero_add]
      refine ⟨h1.trans ?_, hR.fz j⟩
      rw [getElem!_pos _ j hj]
      show some (Value.string _) = some (Value.string _)
      congr 2
      have : (xs.map ofB).toArray[j] = ofB xs[j] := by simp
      rw [this]
      exact (toB_ofB _).symm
    have h := Any.slices_Sort_string L g 0 c (xs.map ofB) w hH hR.lt (by simpa using hl)
    rw [List.length_map] at h
    refine h.mono ?_
    rintro e w' ⟨rfl, n, os, rfl⟩
    have hlen : ((xs.map ofB).mergeSort fun x y => decide (x ≤ y)).length = xs.length := by rw [List.length_mergeSort, List.length_map]
    obtain ⟨D, hD⟩ : ∃ D, ((xs.map ofB).mergeSort fun x y => decide (x ≤ y)) = D := ⟨_, rfl⟩
    have hw : Sort.grow (Sort.putRow encStr (Sort.ahead w n) g 0 D.toArray) os = Go.Proofs.sortWorldK encS Kd.string.sz w g 0 n (D.map toB).toArray os := by
      unfold Go.Proofs.sortWorldK Sort.putRowK Sort.putRow
      have : Sort.putCells encStr 0 D.toArray = Sort.putCells id 0 (Sort.flatK encS 1 (D.map toB).toArray) := by
        funext c
        rw [put_same]
        simp
      rw [this]
      rfl
    rw [hD] at hlen ⊢
    rw [hw]
    obtain ⟨R, M⟩ := sort_row flS hR n os (D.map toB).toArray (by simp [hlen])
    have hp : D.Perm (xs.map ofB) := by rw [← hD]; exact List.mergeSort_perm _ _
    have hso : D.Pairwise (· ≤ ·) := by
      rw [← hD]
      have := List.pairwise_mergeSort (le := fun x y : List UInt8 => decide (x ≤ y)) (fun a b c h1 h2 => by
        rw [decide_eq_true_iff] at *
        exact List.le_trans h1 h2) (fun a b => by
        rw [Bool.or_eq_true, decide_eq_true_iff, decide_eq_true_iff]
        exact List.le_total a b) (xs.map ofB)
      exact this.imp fun h => of_decide_eq_true h
    refine ⟨rfl, D.map toB, ?_, ?_, ?_, M.mono fun k _ e => by rw [e]; rfl⟩
    · have := hp.map toB
      rw [List.map_map] at this
      have e : (xs.map (toB ∘ ofB)) = xs := by
        conv => rhs; rw [← List.map_id xs]
        exact List.map_congr_left fun s _ => toB_ofB s
      rw [e] at this
      exact this
    · refine List.pairwise_map.2 (hso.imp fun {a b} h => ?_)
      rw [ofB_toB, ofB_toB]
      exact h
    · have hl2 : (D.map toB).length = xs.length := by rw [List.length_map, hlen]
      refine (slc_iff flS).2 (.inr ⟨g, c, ex, by rw [hl2], ?_, by omega, hm, by rw [hl2]; exact hex⟩)
      have e : (D.map toB).toArray.toList = D.map toB := rfl
      rw [e] at R
      exact R
end Go.Tat
