import Derived.Test.YtkfofcgonkkdaaaTE
namespace Go.Proofs.Ytkfofcgonkkdaaa
open Go.RowKit Go.Tat Go.Proofs.YtkfofcgonkkdaaaW.PrintWords PTalkPlays
/-- The pieces' times of coming are different. -/
def Dist (xs : List S60) : Prop := xs.Pairwise fun x y => x.f2 ≠ y.f2
theorem Dist.inj {xs : List S60} (h : Dist xs) {a b : S60} (ha : a ∈ xs) (hb : b ∈ xs) (e : a.f2 = b.f2) : a = b := by
  induction xs with
  | nil => cases ha
  | cons x xs ih =>
    unfold Dist at h
    rw [List.pairwise_cons] at h
    rcases List.mem_cons.1 ha with e1 | ha' <;> rcases List.mem_cons.1 hb with e2 | hb'
    · exact e1.trans e2.symm
    · exact absurd (e1 ▸ e) (h.1 b hb')
    · exact absurd (e2 ▸ e.symm) (h.1 a ha')
    · exact ih h.2 ha' hb'
theorem sorted_unique {xs ys zs : List S60} (h : Dist xs) (h1 : ys.Perm xs) (h2 : zs.Perm xs) (s1 : Sorted60 ys) (s2 : Sorted60 zs) : ys = zs := by
  refine List.Perm.eq_of_pairwise (le := fun x y : S60 => ¬ (y.f1 < x.f1 ∨ (y.f1 = x.f1 ∧ x.f2 < y.f2))) ?_ s1 s2 (h1.trans h2.symm)
  intro a b ha hb n1 n2
  exact h.inj (h1.mem_iff.1 ha) (h2.mem_iff.1 hb) (by omega)
/-- The first before the second. -/
def leB (x y : S60) : Bool := decide (x.f1 < y.f1 ∨ (x.f1 = y.f1 ∧ y.f2 ≤ x.f2))
def ins (x : S60) : List S60 → List S60
  | [] => [x]
  | y :: ys => if leB x y then x :: y :: ys else y :: ins x ys
def isort : List S60 → List S60
  | [] => []
  | x :: xs => ins x (isort xs)
theorem ins_perm (x : S60) : ∀ l, (ins x l).Perm (x :: l)
  | [] => .refl _
  | y :: ys => by
    unfold ins
    split
    · exact .refl _
    · exact ((ins_perm x ys).cons y).trans (.swap x y ys)
theorem isort_perm : ∀ l, (isort l).Perm l
  | [] => .refl _
  | x :: xs => (ins_perm x _).trans ((isort_perm xs).cons x)
theorem ins_sorted (x : S60) : ∀ l, Sorted60 l → Sorted60 (ins x l)
  | [], _ => List.pairwise_singleton _ _
  | y :: ys, h => by
    have h0 := h
    unfold Sorted60 at h
    rw [List.pairwise_cons] at h
    unfold ins
    split
    · rename_i hc
      have hc' : x.f1 < y.f1 ∨ (x.f1 = y.f1 ∧ y.f2 ≤ x.f2) := of_decide_eq_true hc
      refine List.pairwise_cons.2 ⟨fun b hb => ?_, h0⟩
      rcases List.mem_cons.1 hb with rfl | hb
      · omega
      · have := h.1 b hb
        omega
    · rename_i hc
      have hc' : ¬ (x.f1 < y.f1 ∨ (x.f1 = y.f1 ∧ y.f2 ≤ x.f2)) := fun e => hc (decide_eq_true e)
      refine List.pairwise_cons.2 ⟨fun b hb => ?_, ins_sorted x ys h.2⟩
      rcases List.mem_cons.1 ((ins_perm x ys).mem_iff.1 hb) with rfl | hb
      · omega
      · exact h.1 b hb
theorem isort_sorted : ∀ l, Sorted60 (isort l)
  | [] => List.Pairwise.nil
  | x :: xs => ins_sorted x _ (isort_sorted xs)
theorem sort_is {xs ys : List S60} (h : Dist xs) (h1 : ys.Perm xs) (s1 : Sorted60 ys) : ys = isort xs := sorted_unique h h1 (isort_perm xs) s1 (isort_sorted xs)
/-- What holds of a talk between the calls. -/
structure TkI (p : Tk) : Prop where
  dist : Dist p.pieces
  came : ∀ x ∈ p.pieces, x.f2 ≤ p.came
  told : ∀ x ∈ p.pieces, 0 ≤ x.f1 ∧ x.f1 < p.times
theorem Dist.map {xs : List S60} (h : Dist xs) (f : S60 → S60) (hf : ∀ x, (f x).f2 = x.f2) : Dist (xs.map f) := List.pairwise_map.2 (h.imp fun {a b} e => by rw [hf, hf]; exact e)
theorem Dist.perm {xs ys : List S60} (h : Dist xs) (p : ys.Perm xs) : Dist ys := (p.pairwise_iff (fun h => fun e => h e.symm)).2 h
theorem addF_I {p : Tk} (h : TkI p) (x : S33) (ht : 1 ≤ p.times) : TkI (addF p x) := by
  refine ⟨?_, fun y hy => ?_, fun y hy => ?_⟩
  · refine List.pairwise_append.2 ⟨h.dist.filter _, List.pairwise_singleton _ _, fun a ha b hb => ?_⟩
    rw [List.mem_singleton.1 hb]
    have := h.came a (List.mem_filter.1 ha).1
    simp only
    omega
  · show y.f2 ≤ p.came + 1
    rcases List.mem_append.1 hy with hy | hy
    · have := h.came y (List.mem_filter.1 hy).1
      omega
    · rw [List.mem_singleton.1 hy]; exact Int.le_refl _
  · show 0 ≤ y.f1 ∧ y.f1 < p.times
    rcases List.mem_append.1 hy with hy | hy
    · exact h.told y (List.mem_filter.1 hy).1
    · rw [List.mem_singleton.1 hy]; simp only; omega
theorem bump_mem {j : Nat} {ys : List S60} {y : S60} (h : y ∈ bump j ys) : ∃ x ∈ ys, y = x ∨ y = told1 x := by
  rcases List.mem_append.1 h with h | h
  · obtain ⟨x, hx, rfl⟩ := List.mem_map.1 h
    exact ⟨x, List.mem_of_mem_take hx, .inr rfl⟩
  · exact ⟨y, List.mem_of_mem_drop h, .inl rfl⟩
theorem bump_came (j : Nat) (ys : List S60) : (bump j ys).map (fun x => x.f2) = ys.map (fun x => x.f2) := by
  unfold bump
  rw [List.map_append, List.map_map]
  show (ys.take j).map (fun x => x.f2) ++ _ = _
  rw [← List.map_append, List.take_append_drop]
theorem Dist.bump {ys : List S60} (h : Dist ys) (j : Nat) : Dist (bump j ys) := by
  have h1 : (ys.map (fun x => x.f2)).Pairwise (· ≠ ·) := List.pairwise_map.2 h
  rw [← bump_came j] at h1
  exact List.pairwise_map.1 h1
theorem takeF_I {p : Tk} (h : TkI p) {ys : List S60} (hp : ys.Perm p.pieces) : TkI (takeF p ys) := by
  refine ⟨((h.dist.perm hp).bump _).filter _, fun y hy => ?_, fun y hy => ?_⟩
  · show y.f2 ≤ p.came
    obtain ⟨x, hx, e⟩ := bump_mem (List.mem_filter.1 hy).1
    have := h.came x (hp.mem_iff.1 hx)
    rcases e with rfl | rfl <;> exact this
  · show 0 ≤ y.f1 ∧ y.f1 < p.times
    obtain ⟨h1, h2⟩ := List.mem_filter.1 hy
    obtain ⟨x, hx, e⟩ := bump_mem h1
    have h3 := h.told x (hp.mem_iff.1 hx)
    have h4 : ¬ p.times ≤ y.f1 := by simpa using h2
    rcases e with rfl | rfl
    · omega
    · have e : (told1 x).f1 = x.f1 + 1 := rfl
      omega
end Go.Proofs.Ytkfofcgonkkdaaa
