import Derived.Test.YtkfofcgonkkdaaaTG
namespace Go.Proofs.Ytkfofcgonkkdaaa
open Go.RowKit Go.Tat Go.Proofs.YtkfofcgonkkdaaaW.PrintWords PTalkPlays
/-! ### The document's list: the pieces, what came last first -/
def to57 (x : S60) : S57 := ⟨x.f0, x.f1⟩
def Fall (zs : List S60) : Prop := zs.Pairwise fun x y => y.f2 < x.f2
theorem Fall.dist {zs : List S60} (h : Fall zs) : Dist zs := h.imp fun h => by omega
/-- Is it among the first n that are told? -/
def pick (s : List S60) (n : Nat) (x : S60) : Bool := (s.take n).any fun y => y.f2 == x.f2
def bumpIf (s : List S60) (n : Nat) (x : S60) : S60 := if pick s n x then told1 x else x
theorem pick_iff {s : List S60} (h : Dist s) {n : Nat} {x : S60} (hx : x ∈ s) : pick s n x = true ↔ x ∈ s.take n := by
  unfold pick
  rw [List.any_eq_true]
  constructor
  · rintro ⟨y, hy, e⟩
    have e' : y.f2 = x.f2 := by simpa using e
    rw [← h.inj (List.mem_of_mem_take hy) hx e']
    exact hy
  · exact fun h => ⟨x, h, by simp⟩
theorem pick_at {s : List S60} (h : Dist s) {n i : Nat} {x : S60} (hx : s[i]? = some x) : pick s n x = decide (i < n) := by
  have hm := List.mem_of_getElem? hx
  rw [Bool.eq_iff_iff, pick_iff h hm, decide_eq_true_eq]
  obtain ⟨hi, e⟩ := List.getElem?_eq_some_iff.1 hx
  constructor
  · intro ht
    obtain ⟨j, hj⟩ := List.mem_iff_getElem?.1 ht
    rw [List.getElem?_take] at hj
    split at hj
    · rename_i hjn
      obtain ⟨hjl, ej⟩ := List.getElem?_eq_some_iff.1 hj
      rcases Nat.lt_trichotomy i j with h1 | h1 | h1
      · omega
      · omega
      · have := List.pairwise_iff_getElem.1 h j i hjl hi h1
        rw [ej, e] at this
        exact absurd rfl this
    · cases hj
  · intro hn
    exact List.mem_iff_getElem?.2 ⟨i, by rw [List.getElem?_take, if_pos hn]; exact hx⟩
theorem bump_is {s : List S60} (h : Dist s) (n : Nat) : bump n s = s.map (bumpIf s n) := by
  apply List.ext_getElem?
  intro i
  rw [List.getElem?_map]
  unfold bump
  by_cases hi : i < s.length
  · have hx := List.getElem?_eq_getElem hi
    rw [hx, Option.map_some]
    unfold bumpIf
    rw [pick_at h hx]
    by_cases hn : i < n
    · rw [List.getElem?_append_left (by simp; omega), List.getElem?_map, List.getElem?_take, if_pos hn, hx]
      simp [hn]
    · rw [List.getElem?_append_right (by simp; omega), List.length_map, List.length_take, List.getElem?_drop]
      have : n + (i - min n s.length) = i := by omega
      rw [this, hx]
      simp [hn]
  · rw [List.getElem?_eq_none (by simp; omega), List.getElem?_eq_none (by omega)]; rfl
/-! ### The pick of one that is told least, what came last first -/
def leP (x y : S60) : Prop := x.f1 < y.f1 ∨ (x.f1 = y.f1 ∧ y.f2 ≤ x.f2)
/-- What is known of k when the first q are gone through. -/
def Pk (zs s : List S60) (n q : Nat) : Option Nat → Prop
  | none => ∀ (j : Nat) (x : S60), j < q → zs[j]? = some x → pick s n x = true
  | some k => k < q ∧ ∃ y, zs[k]? = some y ∧ pick s n y = false ∧ ∀ (j : Nat) (x : S60), j < q → zs[j]? = some x → pick s n x = false → leP y x
theorem Pk.start (zs s : List S60) (n : Nat) : Pk zs s n 0 none := fun j x h => absurd h (Nat.not_lt_zero _)
theorem Pk.was {zs s : List S60} {n q : Nat} {k : Option Nat} (h : Pk zs s n q k) {x : S60} (hx : zs[q]? = some x) (hp : pick s n x = true) : Pk zs s n (q + 1) k := by
  cases k with
  | none =>
    intro j y hj hy
    rcases Nat.lt_or_ge j q with h1 | h1
    · exact h j y h1 hy
    · obtain rfl : j = q := by omega
      rw [hx] at hy; cases hy; exact hp
  | some k =>
    obtain ⟨h1, y, hy, hn, h2⟩ := h
    refine ⟨by omega, y, hy, hn, fun j z hj hz hpz => ?_⟩
    rcases Nat.lt_or_ge j q with h3 | h3
    · exact h2 j z h3 hz hpz
    · obtain rfl : j = q := by omega
      rw [hx] at hz; cases hz
      rw [hp] at hpz; cases hpz
theorem Pk.first {zs s : List S60} {n q : Nat} (h : Pk zs s n q none) {x : S60} (hx : zs[q]? = some x) (hp : pick s n x = false) : Pk zs s n (q + 1) (some q) := by
  refine ⟨by omega, x, hx, hp, fun j z hj hz hpz => ?_⟩
  rcases Nat.lt_or_ge j q with h3 | h3
  · rw [h j z h3 hz] at hpz; cases hpz
  · obtain rfl : j = q := by omega
    rw [hx] at hz; cases hz
    exact .inr ⟨rfl, Int.le_refl _⟩
theorem Pk.less {zs s : List S60} {n q k : Nat} (h : Pk zs s n q (some k)) {x y : S60} (hx : zs[q]? = some x) (hp : pick s n x = false) (hy : zs[k]? = some y) (hl : x.f1 < y.f1) : Pk zs s n (q + 1) (some q) := by
  obtain ⟨h1, y', hy', hn, h2⟩ := h
  rw [hy] at hy'; cases hy'
  refine ⟨by omega, x, hx, hp, fun j z hj hz hpz => ?_⟩
  rcases Nat.lt_or_ge j q with h3 | h3
  · have := h2 j z h3 hz hpz
    unfold leP at *
    omega
  · obtain rfl : j = q := by omega
    rw [hx] at hz; cases hz
    exact .inr ⟨rfl, Int.le_refl _⟩
theorem Pk.more {zs s : List S60} (hf : Fall zs) {n q k : Nat} (h : Pk zs s n q (some k)) {x y : S60} (hx : zs[q]? = some x) (hy : zs[k]? = some y) (hl : ¬ x.f1 < y.f1) : Pk zs s n (q + 1) (some k) := by
  obtain ⟨h1, y', hy', hn, h2⟩ := h
  rw [hy] at hy'; cases hy'
  refine ⟨by omega, y, hy, hn, fun j z hj hz hpz => ?_⟩
  rcases Nat.lt_or_ge j q with h3 | h3
  · exact h2 j z h3 hz hpz
  · obtain rfl : j = q := by omega
    rw [hx] at hz; cases hz
    obtain ⟨l1, e1⟩ := List.getElem?_eq_some_iff.1 hy
    obtain ⟨l2, e2⟩ := List.getElem?_eq_some_iff.1 hx
    have := List.pairwise_iff_getElem.1 hf k j l1 l2 h1
    rw [e1, e2] at this
    unfold leP
    omega
/-- None is left. -/
theorem Pk.none_end {zs s : List S60} (hs : s.Perm zs) (hd : Dist s) {n : Nat} (h : Pk zs s n zs.length none) : s.length ≤ n := by
  rcases Nat.lt_or_ge n s.length with h1 | h1
  · have hx := List.getElem?_eq_getElem h1
    obtain ⟨j, hj⟩ := List.mem_iff_getElem?.1 (hs.mem_iff.1 (List.mem_of_getElem? hx))
    have := h j _ (List.getElem?_eq_some_iff.1 hj).1 hj
    rw [pick_at hd hx] at this
    simp at this
  · exact h1
/-- The one that is found. -/
theorem Pk.some_end {zs s : List S60} (hs : s.Perm zs) (hd : Dist s) (hso : Sorted60 s) {n k : Nat} (h : Pk zs s n zs.length (some k)) : ∃ y, zs[k]? = some y ∧ s[n]? = some y := by
  obtain ⟨h1, y, hy, hn, h2⟩ := h
  refine ⟨y, hy, ?_⟩
  obtain ⟨i, hi⟩ := List.mem_iff_getElem?.1 (hs.mem_iff.2 (List.mem_of_getElem? hy))
  rw [pick_at hd hi] at hn
  have hni : n ≤ i := by simpa using hn
  obtain ⟨hil, ei⟩ := List.getElem?_eq_some_iff.1 hi
  rcases Nat.eq_or_lt_of_le hni with rfl | hlt
  · exact hi
  · have hnl : n < s.length := by omega
    have hx := List.getElem?_eq_getElem hnl
    obtain ⟨j, hj⟩ := List.mem_iff_getElem?.1 (hs.mem_iff.1 (List.mem_of_getElem? hx))
    have hle := h2 j _ (List.getElem?_eq_some_iff.1 hj).1 hj (by rw [pick_at hd hx]; simp)
    have hle2 := List.pairwise_iff_getElem.1 hso n i hnl hil hlt
    have hne := List.pairwise_iff_getElem.1 hd n i hnl hil hlt
    rw [ei] at hle2 hne
    unfold leP at hle
    omega
/-- The lists behind n picks. -/
def wasL (zs s : List S60) (n : Nat) : List Bool := zs.map (pick s n)
def restL (zs s : List S60) (n : Nat) : List S57 := zs.map fun x => to57 (bumpIf s n x)
def toldL (s : List S60) (n : Nat) : List S33 := (s.take n).map (fun x => x.f0)
theorem wasL_zero (zs s : List S60) : wasL zs s 0 = List.replicate zs.length false := by
  unfold wasL
  rw [List.eq_replicate_iff]
  refine ⟨by simp, fun b hb => ?_⟩
  obtain ⟨x, _, rfl⟩ := List.mem_map.1 hb
  simp [pick]
theorem restL_zero (zs s : List S60) : restL zs s 0 = zs.map to57 := by
  unfold restL
  refine List.map_congr_left fun x _ => ?_
  simp [bumpIf, pick]
theorem pick_other {s : List S60} (hd : Dist s) {n : Nat} {y x : S60} (hn : s[n]? = some y) (hx : x ∈ s) (hne : x.f2 ≠ y.f2) : pick s (n + 1) x = pick s n x := by
  obtain ⟨i, hi⟩ := List.mem_iff_getElem?.1 hx
  rw [pick_at hd hi, pick_at hd hi]
  have : i ≠ n := fun e => by rw [e, hn] at hi; cases hi; exact hne rfl
  rw [decide_eq_decide]
  omega
theorem wasL_succ {zs s : List S60} (hs : s.Perm zs) (hd : Dist s) {n k : Nat} {y : S60} (hk : zs[k]? = some y) (hn : s[n]? = some y) : (wasL zs s n).set k true = wasL zs s (n + 1) := by
  unfold wasL
  apply List.ext_getElem?
  intro j
  have hkl := (List.getElem?_eq_some_iff.1 hk).1
  rw [List.getElem?_set, List.getElem?_map, List.getElem?_map]
  by_cases hj : k = j
  · subst hj
    rw [if_pos rfl, if_pos (by simpa using hkl), hk, Option.map_some, pick_at hd hn]
    simp
  · rw [if_neg hj]
    cases hx : zs[j]? with
    | none => rfl
    | some x =>
      rw [Option.map_some, Option.map_some]
      congr 1
      have hdz : Dist zs := hd.perm hs.symm
      obtain ⟨l1, e1⟩ := List.getElem?_eq_some_iff.1 hk
      obtain ⟨l2, e2⟩ := List.getElem?_eq_some_iff.1 hx
      have hne : x.f2 ≠ y.f2 := by
        rcases Nat.lt_or_gt_of_ne hj with h | h
        · have := List.pairwise_iff_getElem.1 hdz k j l1 l2 h
          rw [e1, e2] at this; exact fun e => this e.symm
        · have := List.pairwise_iff_getElem.1 hdz j k l2 l1 h
          rw [e1, e2] at this; exact this
      exact (pick_other hd hn (hs.mem_iff.2 (List.mem_of_getElem? hx)) hne).symm
theorem restL_at {zs s : List S60} (hd : Dist s) {n k : Nat} {y : S60} (hk : zs[k]? = some y) (hn : s[n]? = some y) : (restL zs s n)[k]? = some (to57 y) := by
  unfold restL
  rw [List.getElem?_map, hk, Option.map_some]
  unfold bumpIf
  rw [pick_at hd hn]
  simp
theorem restL_succ {zs s : List S60} (hs : s.Perm zs) (hd : Dist s) {n k : Nat} {y : S60} (hk : zs[k]? = some y) (hn : s[n]? = some y) : (restL zs s n).set k ⟨y.f0, y.f1 + 1⟩ = restL zs s (n + 1) := by
  unfold restL
  apply List.ext_getElem?
  intro j
  have hkl := (List.getElem?_eq_some_iff.1 hk).1
  rw [List.getElem?_set, List.getElem?_map, List.getElem?_map]
  by_cases hj : k = j
  · subst hj
    rw [if_pos rfl, if_pos (by simpa using hkl), hk, Option.map_some]
    unfold bumpIf
    rw [pick_at hd hn]
    simp [to57, told1]
  · rw [if_neg hj]
    cases hx : zs[j]? with
    | none => rfl
    | some x =>
      rw [Option.map_some, Option.map_some]
      congr 2
      have hdz : Dist zs := hd.perm hs.symm
      obtain ⟨l1, e1⟩ := List.getElem?_eq_some_iff.1 hk
      obtain ⟨l2, e2⟩ := List.getElem?_eq_some_iff.1 hx
      have hne : x.f2 ≠ y.f2 := by
        rcases Nat.lt_or_gt_of_ne hj with h | h
        · have := List.pairwise_iff_getElem.1 hdz k j l1 l2 h
          rw [e1, e2] at this; exact fun e => this e.symm
        · have := List.pairwise_iff_getElem.1 hdz j k l2 l1 h
          rw [e1, e2] at this; exact this
      unfold bumpIf
      rw [pick_other hd hn (hs.mem_iff.2 (List.mem_of_getElem? hx)) hne]
theorem toldL_succ {s : List S60} {n : Nat} {y : S60} (hn : s[n]? = some y) : toldL s n ++ [y.f0] = toldL s (n + 1) := took_succ hn
/-! ### The two lists belong together -/
structure Doc (m : List S57) (p : Tk) (zs : List S60) : Prop where
  is : m = zs.map to57
  perm : zs.Perm p.pieces
  fall : Fall zs
  nodes : (zs.map fun x => x.f0.f0).Nodup
  rng : ∀ x ∈ zs, 0 ≤ x.f0.f0 ∧ x.f0.f0 < 64
theorem Doc.nil (n k : Int) : Doc [] ⟨[], n, k, 0⟩ [] := ⟨rfl, .refl _, List.Pairwise.nil, by simp, by simp⟩
theorem nodup_small : ∀ (n : Nat) (l : List Int), l.Nodup → (∀ x ∈ l, 0 ≤ x ∧ x < (n : Int)) → l.length ≤ n
  | 0, l, _, h => by
    cases l with
    | nil => simp
    | cons x l => have := h x (by simp); omega
  | n + 1, l, hn, h => by
    have h1 := nodup_small n (l.filter fun x => !(x == (n : Int))) (hn.sublist List.filter_sublist) fun x hx => by
      have h2 := h x (List.mem_filter.1 hx).1
      have h3 : ¬ x = (n : Int) := by simpa using (List.mem_filter.1 hx).2
      omega
    have h2 := List.length_eq_countP_add_countP (fun x => x == (n : Int)) (l := l)
    have h3 : l.countP (fun x => x == (n : Int)) ≤ 1 := List.nodup_iff_count.1 hn n
    have h4 : l.countP (fun x => decide ¬ (x == (n : Int)) = true) = (l.filter fun x => !(x == (n : Int))).length := by
      rw [List.countP_eq_length_filter]
      congr 1
      refine List.filter_congr fun x _ => ?_
      by_cases e : x = (n : Int) <;> simp [e]
    omega
theorem Doc.small {m : List S57} {p : Tk} {zs : List S60} (h : Doc m p zs) : zs.length ≤ 64 := by
  have := nodup_small 64 (zs.map fun x => x.f0.f0) h.nodes fun x hx => by
    obtain ⟨y, hy, rfl⟩ := List.mem_map.1 hx
    have := h.rng y hy
    omega
  rwa [List.length_map] at this
theorem Doc.len {m : List S57} {p : Tk} {zs : List S60} (h : Doc m p zs) : m.length = p.pieces.length := by rw [h.is, List.length_map, h.perm.length_eq]
def addR (m : List S57) (x : S33) : List S57 := ⟨x, 0⟩ :: m.filter fun y => !(y.f0.f0 == x.f0)
theorem Doc.add {m : List S57} {p : Tk} {zs : List S60} (h : Doc m p zs) (I : TkI p) (x : S33) (hx : 0 ≤ x.f0 ∧ x.f0 < 64) : Doc (addR m x) (addF p x) (⟨x, 0, p.came + 1⟩ :: zs.filter fun y => !(y.f0.f0 == x.f0)) := by
  refine ⟨?_, ?_, ?_, ?_, ?_⟩
  · unfold addR
    rw [h.is, List.map_cons, List.filter_map]
    rfl
  · exact ((h.perm.filter _).cons _).trans (List.perm_append_singleton _ _).symm
  · refine List.pairwise_cons.2 ⟨fun y hy => ?_, h.fall.filter _⟩
    have := I.came y (h.perm.mem_iff.1 (List.mem_filter.1 hy).1)
    show y.f2 < p.came + 1
    omega
  · rw [List.map_cons, List.nodup_cons]
    refine ⟨fun hm => ?_, (List.filter_sublist.map _).nodup h.nodes⟩
    obtain ⟨y, hy, e⟩ := List.mem_map.1 hm
    have := (List.mem_filter.1 hy).2
    simp at this
    exact this e
  · intro y hy
    rcases List.mem_cons.1 hy with rfl | hy
    · exact hx
    · exact h.rng y (List.mem_filter.1 hy).1
def takeR (zs : List S60) (p : Tk) : List S57 := (restL zs (isort zs) (takeN p)).filter fun y => decide (y.f1 < p.times)
theorem isort_of {xs ys : List S60} (h : Dist xs) (p : ys.Perm xs) : isort ys = isort xs := sort_is h ((isort_perm ys).trans p) (isort_sorted ys)
theorem Doc.take {m : List S57} {p : Tk} {zs : List S60} (h : Doc m p zs) (I : TkI p) : ∃ zs', Doc (takeR zs p) (takeD p) zs' ∧ toldL (isort zs) (takeN p) = takeL p := by
  have e := isort_of I.dist h.perm
  have hs := isort_perm zs
  have hd : Dist (isort zs) := h.fall.dist.perm hs
  refine ⟨(zs.map (bumpIf (isort zs) (takeN p))).filter fun y => decide (y.f1 < p.times), ⟨?_, ?_, ?_, ?_, ?_⟩, ?_⟩
  · unfold takeR restL
    rw [show (zs.map fun x => to57 (bumpIf (isort zs) (takeN p) x)) = (zs.map (bumpIf (isort zs) (takeN p))).map to57 by rw [List.map_map]; rfl, List.filter_map]
    rfl
  · show List.Perm _ ((bump (takeN p) (isort p.pieces)).filter _)
    rw [← e, bump_is hd]
    have : (fun x : S60 => !decide (p.times ≤ x.f1)) = fun y => decide (y.f1 < p.times) := by
      funext x
      rw [Bool.eq_iff_iff]
      simp only [Bool.not_eq_true', decide_eq_false_iff_not, decide_eq_true_eq]
      omega
    show List.Perm _ (List.filter (fun x : S60 => !decide (p.times ≤ x.f1)) _)
    rw [this]
    exact ((hs.symm).map _).filter _
  · refine List.Pairwise.filter _ (List.pairwise_map.2 (h.fall.imp fun {a b} hab => ?_))
    have h1 : ∀ x, (bumpIf (isort zs) (takeN p) x).f2 = x.f2 := fun x => by unfold bumpIf; split <;> rfl
    rw [h1, h1]
    exact hab
  · refine (List.filter_sublist.map _).nodup ?_
    rw [List.map_map, show ((fun x : S60 => x.f0.f0) ∘ bumpIf (isort zs) (takeN p)) = fun x => x.f0.f0 from funext fun x => by show (bumpIf _ _ x).f0.f0 = _; unfold bumpIf; split <;> rfl]
    exact h.nodes
  · intro y hy
    obtain ⟨x, hx, rfl⟩ := List.mem_map.1 (List.mem_filter.1 hy).1
    rw [show (bumpIf (isort zs) (takeN p) x).f0 = x.f0 by unfold bumpIf; split <;> rfl]
    exact h.rng x hx
  · unfold takeL takeO toldL
    rw [e]
end Go.Proofs.Ytkfofcgonkkdaaa
