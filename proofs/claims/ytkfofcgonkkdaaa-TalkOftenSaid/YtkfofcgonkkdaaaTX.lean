import Derived.Test.YtkfofcgonkkdaaaTV
namespace Go.Proofs.Ytkfofcgonkkdaaa
open Go.RowKit Go.Tat Go.Proofs.YtkfofcgonkkdaaaW.PrintWords PTalkPlays
/-! ### How often each was told -/
def cnt (T : List (Int × Int)) (x : Int) : Int := (mget T x).getD 0
theorem cnt_put (T : List (Int × Int)) (x y v : Int) : cnt (mput T x v) y = if y = x then v else cnt T y := by
  unfold cnt
  rw [mget_mput]
  split <;> rfl
def tell (T : List (Int × Int)) (l : List S33) : List (Int × Int) := l.foldl (fun T u => mput T u.f0 (cnt T u.f0 + 1)) T
theorem tell_succ {T : List (Int × Int)} {l : List S33} {q : Nat} {u : S33} (h : l[q]? = some u) : tell T (l.take (q + 1)) = mput (tell T (l.take q)) u.f0 (cnt (tell T (l.take q)) u.f0 + 1) := by
  obtain ⟨hl, he⟩ := List.getElem?_eq_some_iff.1 h
  unfold tell
  rw [← List.take_append_getElem hl, List.foldl_append, he]; rfl
theorem tell_cnt (l : List S33) : ∀ (T : List (Int × Int)), (l.map (fun u => u.f0)).Nodup → ∀ x, cnt (tell T l) x = cnt T x + (if x ∈ l.map (fun u => u.f0) then 1 else 0) := by
  induction l with
  | nil => intro T _ x; simp [tell]
  | cons u l ih =>
    intro T hn x
    rw [List.map_cons, List.nodup_cons] at hn
    have h1 : tell T (u :: l) = tell (mput T u.f0 (cnt T u.f0 + 1)) l := rfl
    rw [h1, ih _ hn.2, cnt_put]
    by_cases hx : x = u.f0
    · subst hx
      rw [if_pos rfl, if_neg hn.1, if_pos (by simp)]
      omega
    · rw [if_neg hx]
      by_cases hm : x ∈ l.map (fun u => u.f0)
      · rw [if_pos hm, if_pos (by rw [List.map_cons]; exact List.mem_cons_of_mem _ hm)]
      · rw [if_neg hm, if_neg (by rw [List.map_cons, List.mem_cons]; exact fun h => h.elim hx hm)]
theorem tell_keys (l : List S33) : ∀ (T : List (Int × Int)) (x : Int), x ∈ (tell T l).map (·.1) ↔ x ∈ T.map (·.1) ∨ x ∈ l.map (fun u => u.f0) := by
  induction l with
  | nil => intro T x; simp [tell]
  | cons u l ih =>
    intro T x
    have h1 : tell T (u :: l) = tell (mput T u.f0 (cnt T u.f0 + 1)) l := rfl
    rw [h1, ih, mput_keys, List.map_cons, List.mem_cons]
    split
    · rename_i h
      constructor
      · rintro (h1 | h1)
        · exact .inl h1
        · exact .inr (.inr h1)
      · rintro (h1 | rfl | h1)
        · exact .inl h1
        · exact .inl h
        · exact .inr h1
    · rw [List.mem_append, List.mem_singleton, or_assoc]
theorem tell_nodup (l : List S33) : ∀ (T : List (Int × Int)), (T.map (·.1)).Nodup → ((tell T l).map (·.1)).Nodup := by
  induction l with
  | nil => intro T h; exact h
  | cons u l ih => intro T h; exact ih _ (mput_nodup h)
/-- What holds between the takes. -/
structure OI (p : Tk) (M : List (Int × S33)) (T : List (Int × Int)) : Prop where
  mi : MI p M
  one : 1 ≤ p.times
  now : ∀ x ∈ p.pieces, cnt T x.f0.f0 = x.f1
  all : ∀ x ∈ M.map (·.1), x ∈ p.pieces.map nod ∨ cnt T x = p.times
  sub : ∀ x ∈ T.map (·.1), x ∈ M.map (·.1)
  top : ∀ x, 0 ≤ cnt T x ∧ cnt T x ≤ p.times
theorem take_nod {p : Tk} {x : S60} (hn : (p.pieces.map nod).Nodup) {i : Nat} (h : (isort p.pieces)[i]? = some x) : x.f0.f0 ∈ (takeL p).map (fun u => u.f0) ↔ i < takeN p := by
  have hnd : ((isort p.pieces).map nod).Nodup := ((isort_perm p.pieces).map nod).nodup_iff.2 hn
  have e : (takeL p).map (fun u => u.f0) = ((isort p.pieces).map nod).take (takeN p) := by
    rw [← List.map_take]
    exact List.map_map
  have hi : ((isort p.pieces).map nod)[i]? = some x.f0.f0 := by rw [List.getElem?_map, h]; rfl
  rw [e]
  obtain ⟨hl, hx⟩ := List.getElem?_eq_some_iff.1 hi
  constructor
  · intro hm
    obtain ⟨j, hj⟩ := List.mem_iff_getElem?.1 hm
    rw [List.getElem?_take] at hj
    split at hj
    · rename_i hlt
      have : j = i := (List.getElem?_inj (List.getElem?_eq_some_iff.1 hj).1 hnd).1 (hj.trans hi.symm)
      omega
    · cases hj
  · intro hlt
    refine List.mem_iff_getElem?.2 ⟨i, ?_⟩
    rw [List.getElem?_take, if_pos hlt]
    exact hi
theorem bump_get (j : Nat) (ys : List S60) (i : Nat) : (bump j ys)[i]? = if i < j then (ys[i]?).map told1 else ys[i]? := by
  unfold bump
  rcases Nat.lt_or_ge i (ys.take j).length with h | h
  · have h2 : i < j := by rw [List.length_take] at h; omega
    rw [List.getElem?_append_left (by rw [List.length_map]; exact h), List.getElem?_map, List.getElem?_take, if_pos h2, if_pos h2]
  · rw [List.getElem?_append_right (by rw [List.length_map]; exact h), List.getElem?_drop, List.length_map, List.length_take] at *
    split
    · rename_i hlt
      have hy : ys.length ≤ i := by omega
      rw [List.getElem?_eq_none hy, List.getElem?_eq_none (by omega)]
      rfl
    · by_cases hj : j ≤ ys.length
      · congr 1
        omega
      · rw [List.getElem?_eq_none (by omega), List.getElem?_eq_none (by omega)]
theorem OI.take {p : Tk} {M : List (Int × S33)} {T : List (Int × Int)} (h : OI p M T) : OI (takeD p) M (tell T (takeL p)) := by
  have hc := fun x => tell_cnt (takeL p) T h.mi.once x
  have hsub : ∀ x ∈ (takeL p).map (fun u => u.f0), x ∈ p.pieces.map nod := fun x hx => by
    obtain ⟨u, hu, rfl⟩ := List.mem_map.1 hx
    obtain ⟨y, hy, rfl⟩ := List.mem_map.1 hu
    exact List.mem_map.2 ⟨y, (isort_perm p.pieces).mem_iff.1 (List.mem_of_mem_take hy), rfl⟩
  refine ⟨h.mi.take, h.one, fun y hy => ?_, fun x hx => ?_, fun x hx => ?_, fun x => ?_⟩
  · obtain ⟨i, hi⟩ := List.mem_iff_getElem?.1 (List.mem_filter.1 hy).1
    rw [bump_get] at hi
    split at hi
    · rename_i hlt
      obtain ⟨z, hz, rfl⟩ := Option.map_eq_some_iff.1 hi
      have hm := (take_nod h.mi.nodes hz).2 hlt
      show cnt _ z.f0.f0 = z.f1 + 1
      rw [hc, if_pos hm, h.now z ((isort_perm p.pieces).mem_iff.1 (List.mem_of_getElem? hz))]
    · rename_i hlt
      have hm : y.f0.f0 ∉ (takeL p).map (fun u => u.f0) := fun e => hlt ((take_nod h.mi.nodes hi).1 e)
      rw [hc, if_neg hm, h.now y ((isort_perm p.pieces).mem_iff.1 (List.mem_of_getElem? hi))]
      omega
  · show _ ∨ _ = p.times
    rcases h.all x hx with hp | hp
    · obtain ⟨z, hz, rfl⟩ := List.mem_map.1 hp
      obtain ⟨i, hi⟩ := List.mem_iff_getElem?.1 ((isort_perm p.pieces).mem_iff.2 hz)
      have hz1 := h.mi.ti.told z hz
      by_cases hlt : i < takeN p
      · have hm := (take_nod h.mi.nodes hi).2 hlt
        by_cases hn : z.f1 + 1 = p.times
        · right
          show cnt _ z.f0.f0 = _
          rw [hc, if_pos hm, h.now z hz]
          exact hn
        · left
          refine List.mem_map.2 ⟨told1 z, List.mem_filter.2 ⟨List.mem_of_getElem? (i := i) (by rw [bump_get, if_pos hlt, hi]; rfl), ?_⟩, rfl⟩
          have : ¬ p.times ≤ (told1 z).f1 := by show ¬ p.times ≤ z.f1 + 1; omega
          simp [this]
      · left
        refine List.mem_map.2 ⟨z, List.mem_filter.2 ⟨List.mem_of_getElem? (i := i) (by rw [bump_get, if_neg hlt, hi]), ?_⟩, rfl⟩
        have : ¬ p.times ≤ z.f1 := by omega
        simp [this]
    · right
      rw [hc]
      by_cases hm : x ∈ (takeL p).map (fun u => u.f0)
      · obtain ⟨z, hz, rfl⟩ := List.mem_map.1 (hsub x hm)
        have h1 := h.now z hz
        have h2 := h.mi.ti.told z hz
        have h3 : cnt T z.f0.f0 = p.times := hp
        omega
      · rw [if_neg hm, hp]
        omega
  · rcases (tell_keys _ _ _).1 hx with hx | hx
    · exact h.sub x hx
    · obtain ⟨z, hz, rfl⟩ := List.mem_map.1 (hsub x hx)
      have := mget_some_mem (h.mi.last z hz)
      exact List.mem_map.2 ⟨_, this, rfl⟩
  · show 0 ≤ _ ∧ _ ≤ p.times
    rw [hc]
    have h4 := h.top x
    by_cases hm : x ∈ (takeL p).map (fun u => u.f0)
    · obtain ⟨z, hz, rfl⟩ := List.mem_map.1 (hsub x hm)
      have h1 := h.now z hz
      have h2 := h.mi.ti.told z hz
      have e : nod z = z.f0.f0 := rfl
      rw [if_pos hm, e, h1]
      omega
    · rw [if_neg hm]
      omega
/-- How much is still to be told. -/
def left (n : Int) (l : List S60) : Nat := (l.map fun x => (n - x.f1).toNat).sum
theorem left_perm (n : Int) {l l' : List S60} (h : l.Perm l') : left n l = left n l' := (h.map _).sum_nat
theorem left_cons (n : Int) (x : S60) (l : List S60) : left n (x :: l) = (n - x.f1).toNat + left n l := by
  unfold left
  rw [List.map_cons, List.sum_cons]
theorem left_filter (n : Int) (l : List S60) : left n (l.filter fun x => !decide (n ≤ x.f1)) = left n l := by
  induction l with
  | nil => rfl
  | cons x l ih =>
    by_cases h : n ≤ x.f1
    · rw [List.filter_cons_of_neg (by simp [h]), ih, left_cons]
      omega
    · rw [List.filter_cons_of_pos (by simp [h]), left_cons, left_cons, ih]
theorem left_bump (n : Int) (j : Nat) (ys : List S60) (hj : 0 < j) (hy : 0 < ys.length) (ht : ∀ x ∈ ys, x.f1 < n) : left n (bump j ys) + 1 ≤ left n ys := by
  have hle : ∀ (j : Nat) (ys : List S60), left n (bump j ys) ≤ left n ys := by
    intro j ys
    induction ys generalizing j with
    | nil => simp [bump, left]
    | cons x ys ih =>
      cases j with
      | zero => exact Nat.le_refl _
      | succ j =>
        have e : bump (j + 1) (x :: ys) = told1 x :: bump j ys := rfl
        have e2 : (told1 x).f1 = x.f1 + 1 := rfl
        have := ih j
        rw [e, left_cons, left_cons, e2]
        omega
  match j, ys, hj, hy with
  | j + 1, x :: ys, _, _ =>
    have e : bump (j + 1) (x :: ys) = told1 x :: bump j ys := rfl
    have e2 : (told1 x).f1 = x.f1 + 1 := rfl
    have h1 := hle j ys
    have h2 := ht x (by simp)
    rw [e, left_cons, left_cons, e2]
    omega
theorem left_take {p : Tk} (h : TkI p) (hm : 1 ≤ p.most) (hp : p.pieces ≠ []) : left p.times (takeD p).pieces + 1 ≤ left p.times p.pieces := by
  have h1 : 0 < p.pieces.length := List.length_pos_iff.2 hp
  show left p.times ((bump (takeN p) (isort p.pieces)).filter _) + 1 ≤ _
  rw [left_filter, ← left_perm p.times (isort_perm p.pieces)]
  refine left_bump _ _ _ ?_ (by rw [(isort_perm p.pieces).length_eq]; exact h1) fun x hx => (h.told x ((isort_perm p.pieces).mem_iff.1 hx)).2
  unfold takeN
  omega
theorem left_nil {p : Tk} (h : TkI p) (h0 : left p.times p.pieces = 0) : p.pieces = [] := by
  cases hp : p.pieces with
  | nil => rfl
  | cons x l =>
    have := (h.told x (by rw [hp]; simp)).2
    rw [hp, left_cons] at h0
    omega
theorem nodup_bound : ∀ (n : Nat) (l : List Int), l.Nodup → (∀ x ∈ l, 0 ≤ x ∧ x < n) → l.length ≤ n
  | 0, l, _, h => by
    cases l with
    | nil => exact Nat.le_refl _
    | cons x l => have := h x (by simp); omega
  | n + 1, l, hn, h => by
    have h1 := nodup_bound n (l.filter fun x => decide (x ≠ (n : Int))) (hn.filter _) fun x hx => by
      obtain ⟨h2, h3⟩ := List.mem_filter.1 hx
      have := h x h2
      have h4 : x ≠ (n : Int) := by simpa using h3
      omega
    have h2 : l.length ≤ (l.filter fun x => decide (x ≠ (n : Int))).length + 1 := by
      have h3 : (l.filter fun x => decide (x ≠ (n : Int))) = l.filter fun x => !(x == (n : Int)) := by
        congr; funext x
        by_cases hx : x = (n : Int)
        · simp [hx]
        · rw [decide_eq_true hx]; simp [hx]
      have h4 : (l.filter fun x => x == (n : Int)).length ≤ 1 := by
        have h5 : (l.filter fun x => x == (n : Int)).Nodup := hn.filter _
        have h6 : ∀ x ∈ (l.filter fun x => x == (n : Int)), x = (n : Int) := fun x hx => by simpa using (List.mem_filter.1 hx).2
        match (l.filter fun x => x == (n : Int)), h5, h6 with
        | [], _, _ => simp
        | [a], _, _ => simp
        | a :: b :: t, h5, h6 =>
          rw [List.nodup_cons] at h5
          exact absurd (by rw [h6 a (by simp), h6 b (by simp)]; simp) h5.1
      have h7 : (l.filter fun x => x == (n : Int)).length + (l.filter fun x => !(x == (n : Int))).length = l.length := by
        rw [← List.length_append]
        exact (List.filter_append_perm _ l).length_eq
      rw [h3]
      omega
    omega
theorem left_start {p : Tk} (M : List (Int × S33)) (h : MI p M) (hz : ∀ x ∈ p.pieces, 0 ≤ x.f0.f0 ∧ x.f0.f0 < 64) (n : Nat) (hn : p.times = n) : left p.times p.pieces ≤ 64 * n := by
  have hl : p.pieces.length ≤ 64 := by
    have := nodup_bound 64 (p.pieces.map nod) h.nodes fun x hx => by
      obtain ⟨y, hy, rfl⟩ := List.mem_map.1 hx
      exact hz y hy
    rwa [List.length_map] at this
  have hs : ∀ (l : List S60), (∀ x ∈ l, 0 ≤ x.f1) → left p.times l ≤ l.length * n := by
    intro l
    induction l with
    | nil => intro _; simp [left]
    | cons x l ih =>
      intro h
      have h1 := ih fun y hy => h y (by simp [hy])
      have h2 := h x (by simp)
      rw [left_cons, List.length_cons, Nat.succ_mul]
      omega
  exact Nat.le_trans (hs _ fun x hx => (h.ti.told x hx).1) (Nat.mul_le_mul_right _ hl)
end Go.Proofs.Ytkfofcgonkkdaaa
