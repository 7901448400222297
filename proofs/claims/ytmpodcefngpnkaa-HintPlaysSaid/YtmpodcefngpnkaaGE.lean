import Derived.Test.YtmpodcefngpnkaaGC
import Derived.Test.YtmpodcefngpnkaaGD
namespace Go.Proofs.Ytmpodcefngpnkaa
open Go.RowKit Go.Tat Go.Proofs.YtmpodcefngpnkaaW.PrintWords PHintPlays
/-! ### Which node stands first -/
def leB (x y : S104) : Bool := decide (y.f1 < x.f1 ∨ (x.f1 = y.f1 ∧ x.f0 ≤ y.f0))
def ins (x : S104) : List S104 → List S104
  | [] => [x]
  | y :: ys => if leB x y then x :: y :: ys else y :: ins x ys
def isort : List S104 → List S104
  | [] => []
  | x :: xs => ins x (isort xs)
theorem ins_perm (x : S104) : ∀ l, (ins x l).Perm (x :: l)
  | [] => .refl _
  | y :: ys => by
    unfold ins
    split
    · exact .refl _
    · exact ((ins_perm x ys).cons y).trans (.swap x y ys)
theorem isort_perm : ∀ l, (isort l).Perm l
  | [] => .refl _
  | x :: xs => (ins_perm x _).trans ((isort_perm xs).cons x)
theorem ins_sorted (x : S104) : ∀ l, Sorted104 l → Sorted104 (ins x l)
  | [], _ => List.pairwise_singleton _ _
  | y :: ys, h => by
    have h0 := h
    unfold Sorted104 at h
    rw [List.pairwise_cons] at h
    unfold ins
    split
    · rename_i hc
      have hc' : y.f1 < x.f1 ∨ (x.f1 = y.f1 ∧ x.f0 ≤ y.f0) := of_decide_eq_true hc
      refine List.pairwise_cons.2 ⟨fun b hb => ?_, h0⟩
      rcases List.mem_cons.1 hb with rfl | hb
      · omega
      · have := h.1 b hb
        omega
    · rename_i hc
      have hc' : ¬ (y.f1 < x.f1 ∨ (x.f1 = y.f1 ∧ x.f0 ≤ y.f0)) := fun e => hc (decide_eq_true e)
      refine List.pairwise_cons.2 ⟨fun b hb => ?_, ins_sorted x ys h.2⟩
      rcases List.mem_cons.1 ((ins_perm x ys).mem_iff.1 hb) with rfl | hb
      · omega
      · exact h.1 b hb
theorem isort_sorted : ∀ l, Sorted104 (isort l)
  | [] => List.Pairwise.nil
  | x :: xs => ins_sorted x _ (isort_sorted xs)
/-- The nodes are different. -/
def Dist (xs : List S104) : Prop := (xs.map (fun x => x.f0)).Nodup
theorem Dist.inj {xs : List S104} (h : Dist xs) {a b : S104} (ha : a ∈ xs) (hb : b ∈ xs) (e : a.f0 = b.f0) : a = b := by
  induction xs with
  | nil => cases ha
  | cons x xs ih =>
    unfold Dist at h
    rw [List.map_cons, List.nodup_cons] at h
    rcases List.mem_cons.1 ha with e1 | ha' <;> rcases List.mem_cons.1 hb with e2 | hb'
    · exact e1.trans e2.symm
    · exact absurd (List.mem_map.2 ⟨b, hb', by rw [← e, e1]⟩) h.1
    · exact absurd (List.mem_map.2 ⟨a, ha', by rw [e, e2]⟩) h.1
    · exact ih h.2 ha' hb'
theorem sort_is {xs ys : List S104} (h : Dist xs) (h1 : ys.Perm xs) (s1 : Sorted104 ys) : ys = isort xs := by
  refine List.Perm.eq_of_pairwise (le := fun x y : S104 => ¬ (x.f1 < y.f1 ∨ (x.f1 = y.f1 ∧ y.f0 < x.f0))) ?_ s1 (isort_sorted xs) (h1.trans (isort_perm xs).symm)
  intro a b ha hb n1 n2
  exact h.inj (h1.mem_iff.1 ha) ((isort_perm xs).mem_iff.1 hb) (by omega)
/-- The nodes below 64, each once. -/
def ddS (a : List Int) (n : Int) : List Int := if n < 64 ∧ n ∉ a then a ++ [n] else a
def dd (l : List Int) : List Int := l.foldl ddS []
theorem dd_succ {l : List Int} {j : Nat} {n : Int} (h : l[j]? = some n) : dd (l.take (j + 1)) = ddS (dd (l.take j)) n := by
  obtain ⟨hl, he⟩ := List.getElem?_eq_some_iff.1 h
  unfold dd
  rw [← List.take_append_getElem hl, List.foldl_append, he]; rfl
theorem ddS_mem (a : List Int) (n x : Int) : x ∈ ddS a n ↔ x ∈ a ∨ (x = n ∧ n < 64) := by
  unfold ddS
  split
  · rename_i h
    rw [List.mem_append, List.mem_singleton]
    exact ⟨fun e => e.imp id fun e => ⟨e, h.1⟩, fun e => e.imp id fun e => e.1⟩
  · rename_i h
    refine ⟨.inl, fun e => e.elim id fun e => ?_⟩
    rw [e.1]
    exact Decidable.byContradiction fun hn => h ⟨e.2, hn⟩
theorem dd_go (l : List Int) : ∀ (a : List Int) (x : Int), x ∈ l.foldl ddS a ↔ x ∈ a ∨ (x ∈ l ∧ x < 64) := by
  induction l with
  | nil => intro a x; simp
  | cons n l ih =>
    intro a x
    rw [List.foldl_cons, ih, ddS_mem, List.mem_cons]
    constructor
    · rintro ((h | ⟨h1, h2⟩) | h)
      · exact .inl h
      · exact .inr ⟨.inl h1, by omega⟩
      · exact .inr ⟨.inr h.1, h.2⟩
    · rintro (h | ⟨h1 | h1, h2⟩)
      · exact .inl (.inl h)
      · exact .inl (.inr ⟨h1, by omega⟩)
      · exact .inr ⟨h1, h2⟩
theorem dd_mem (l : List Int) (x : Int) : x ∈ dd l ↔ x ∈ l ∧ x < 64 := by
  rw [dd, dd_go]; simp
theorem ddS_nodup {a : List Int} (n : Int) (h : a.Nodup) : (ddS a n).Nodup := by
  unfold ddS
  split
  · rename_i hc
    rw [List.nodup_append]
    exact ⟨h, by simp, fun x hx y hy => by rw [List.mem_singleton.1 hy]; exact fun e => hc.2 (e ▸ hx)⟩
  · exact h
theorem dd_nodup (l : List Int) : (dd l).Nodup := by
  have : ∀ (l a : List Int), a.Nodup → (l.foldl ddS a).Nodup := by
    intro l
    induction l with
    | nil => intro a h; exact h
    | cons n l ih => intro a h; exact ih _ (ddS_nodup n h)
  exact this l [] List.nodup_nil
/-- A node, and its weight. -/
def ofN (key : ByteArray) (n : Int) : S104 := ⟨n, wt key n⟩
def cand (key : ByteArray) (l : List Int) : List S104 := (dd l).map (ofN key)
theorem cand_nodes (key : ByteArray) (a : List Int) : (a.map (ofN key)).map (fun x => x.f0) = a := by
  rw [List.map_map]
  exact List.map_id'' (fun _ => rfl) a
theorem cand_dist (key : ByteArray) (l : List Int) : Dist (cand key l) := by
  unfold Dist cand
  rw [cand_nodes]
  exact dd_nodup l
/-- All nodes, the one of the greatest weight first. -/
def srt (key : ByteArray) (l : List Int) : List Int := (isort (cand key l)).map (fun x => x.f0)
def own (key : ByteArray) (l : List Int) : List Int := (srt key l).take 2
def bef (key : ByteArray) (x y : Int) : Prop := wt key y < wt key x ∨ (wt key x = wt key y ∧ x < y)
theorem srt_mem (key : ByteArray) (l : List Int) (x : Int) : x ∈ srt key l ↔ x ∈ l ∧ x < 64 := by
  have h := ((isort_perm (cand key l)).map (fun x => x.f0)).mem_iff (a := x)
  unfold srt
  rw [h]
  unfold cand
  rw [cand_nodes, dd_mem]
theorem srt_nodup (key : ByteArray) (l : List Int) : (srt key l).Nodup := ((isort_perm (cand key l)).map (fun x : S104 => x.f0)).nodup_iff.2 (cand_dist key l)
theorem cand_weight {key : ByteArray} {l : List Int} {x : S104} (h : x ∈ isort (cand key l)) : x.f1 = wt key x.f0 := by
  obtain ⟨n, _, rfl⟩ := List.mem_map.1 ((isort_perm (cand key l)).mem_iff.1 h)
  rfl
theorem srt_sorted (key : ByteArray) (l : List Int) : (srt key l).Pairwise (bef key) := by
  have h1 : (isort (cand key l)).Pairwise fun x y => ¬ (x.f1 < y.f1 ∨ (x.f1 = y.f1 ∧ y.f0 < x.f0)) := isort_sorted _
  have h2 : (isort (cand key l)).Pairwise fun x y => x.f0 ≠ y.f0 := List.pairwise_map.1 (srt_nodup key l)
  refine List.pairwise_map.2 ?_
  refine (h1.and h2).imp_of_mem ?_
  intro a b ha hb ⟨n1, n2⟩
  unfold bef
  rw [← cand_weight ha, ← cand_weight hb]
  omega
theorem bef_asymm {key : ByteArray} {x y : Int} (h1 : bef key x y) (h2 : bef key y x) : False := by
  unfold bef at *
  omega
theorem bef_unique {key : ByteArray} {xs ys : List Int} (h1 : xs.Pairwise (bef key)) (h2 : ys.Pairwise (bef key)) (hm : ∀ x, x ∈ xs ↔ x ∈ ys) : xs = ys := by
  have nd : ∀ {xs : List Int}, xs.Pairwise (bef key) → xs.Nodup := fun h => h.imp fun {a b} h e => by subst e; exact bef_asymm h h
  exact List.Perm.eq_of_pairwise (le := bef key) (fun a b _ _ n1 n2 => (bef_asymm n1 n2).elim) h1 h2 ((List.perm_ext_iff_of_nodup (nd h1) (nd h2)).2 hm)
theorem srt_congr (key : ByteArray) {l l' : List Int} (h : ∀ x, x < 64 → (x ∈ l ↔ x ∈ l')) : srt key l = srt key l' := by
  refine bef_unique (srt_sorted key l) (srt_sorted key l') fun x => ?_
  rw [srt_mem, srt_mem]
  exact ⟨fun e => ⟨(h x e.2).1 e.1, e.2⟩, fun e => ⟨(h x e.2).2 e.1, e.2⟩⟩
theorem srt_less (key : ByteArray) (l : List Int) (n : Int) : srt key (l.filter fun x => decide (x ≠ n)) = (srt key l).filter fun x => decide (x ≠ n) := by
  refine bef_unique (srt_sorted key _) ((srt_sorted key l).filter _) fun x => ?_
  rw [srt_mem, List.mem_filter, List.mem_filter, srt_mem]
  constructor
  · rintro ⟨⟨a, b⟩, c⟩; exact ⟨⟨a, c⟩, b⟩
  · rintro ⟨⟨a, b⟩, c⟩; exact ⟨⟨a, c⟩, b⟩
end Go.Proofs.Ytmpodcefngpnkaa
