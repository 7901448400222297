/- The ring of links as a list: what is behind what. -/
namespace Go.Proofs.Ytgfkfmnncjjopaa
def fset {α : Type} (f : Nat → α) (i : Nat) (v : α) : Nat → α := fun j => if j = i then v else f j
theorem fset_same {α : Type} (f : Nat → α) (i : Nat) (v : α) : fset f i v i = v := by simp [fset]
theorem fset_ne {α : Type} (f : Nat → α) {i j : Nat} (v : α) (h : j ≠ i) : fset f i v j = f j := by simp [fset, h]
/-- What the links hold. -/
structure LS where
  th : Nat → Bool
  pr : Nat → Nat
  sc : Nat → Nat
/-- No link leads out. -/
def WF (n : Nat) (S : LS) : Prop := ∀ i, i ≤ n → S.pr i ≤ n ∧ S.sc i ≤ n
/-- What 'Drop' makes of the links, where the number is there. -/
def dropS (S : LS) (i : Nat) : LS := ⟨fset S.th i false, fset (fset S.pr (S.sc i) (S.pr i)) i 0, fset (fset S.sc (S.pr i) (S.sc i)) i 0⟩
def dropF (S : LS) (i : Nat) : LS := if S.th i = true then dropS S i else S
/-- What 'Use' makes of them. -/
def useF (n : Nat) (S : LS) (i : Nat) : LS :=
  let S1 := dropF S i
  ⟨fset S1.th i true, fset (fset S1.pr i n) (S1.sc n) i, fset (fset S1.sc i (S1.sc n)) n i⟩
theorem WF.drop {n : Nat} {S : LS} (h : WF n S) (i : Nat) (hi : i ≤ n) : WF n (dropF S i) := by
  unfold dropF; split
  · intro j hj
    have hI := h i hi; have hJ := h j hj
    unfold dropS fset
    refine ⟨?_, ?_⟩ <;> dsimp only <;> (repeat' split) <;> omega
  · exact h
theorem WF.use {n : Nat} {S : LS} (h : WF n S) (i : Nat) (hi : i ≤ n) : WF n (useF n S i) := by
  have h1 := h.drop i hi
  intro j hj
  have hJ := h1 j hj; have hN := h1 n (Nat.le_refl n)
  unfold useF fset
  refine ⟨?_, ?_⟩ <;> dsimp only <;> (repeat' split) <;> omega
/-- Each one's next is the next one, and back. -/
def Lk (S : LS) : List Nat → Prop
  | x :: y :: r => S.sc x = y ∧ S.pr y = x ∧ Lk S (y :: r)
  | _ => True
theorem Lk_app {S : LS} : ∀ (a : List Nat) (x : Nat) (b : List Nat), Lk S (a ++ x :: b) ↔ Lk S (a ++ [x]) ∧ Lk S (x :: b)
  | [], x, b => by simp [Lk]
  | [y], x, b => by simp [Lk, and_assoc]
  | y :: z :: a, x, b => by
    have := Lk_app (S := S) (z :: a) x b
    simp only [List.cons_append] at this
    simp only [List.cons_append, Lk, this, and_assoc]
theorem Lk_congr {S S' : LS} : ∀ (l : List Nat), (∀ x ∈ l.dropLast, S'.sc x = S.sc x) → (∀ y ∈ l.tail, S'.pr y = S.pr y) → Lk S l → Lk S' l
  | [], _, _, _ => trivial
  | [x], _, _, _ => trivial
  | x :: y :: r, h1, h2, h => by
    refine ⟨by rw [h1 x (by simp)]; exact h.1, by rw [h2 y (by simp)]; exact h.2.1, Lk_congr (y :: r) (fun z hz => h1 z ?_) (fun z hz => h2 z ?_) h.2.2⟩
    · simp only [List.dropLast_cons_cons]; exact List.mem_cons_of_mem _ hz
    · simp only [List.tail_cons] at hz ⊢; exact List.mem_cons_of_mem _ hz
/-- The links are those of this order. -/
structure Cyc (n : Nat) (S : LS) (o : List Nat) : Prop where
  nd : o.Nodup
  lt : ∀ x ∈ o, x < n
  th : ∀ x, x < n → (S.th x = true ↔ x ∈ o)
  lk : Lk S (n :: (o ++ [n]))
theorem Lk_head {S : LS} {x y : Nat} {r : List Nat} (h : Lk S (x :: y :: r)) : S.sc x = y ∧ S.pr y = x := ⟨h.1, h.2.1⟩
theorem Lk_mid {S : LS} {a : List Nat} {x y : Nat} {b : List Nat} (h : Lk S (a ++ x :: y :: b)) : S.sc x = y ∧ S.pr y = x := Lk_head ((Lk_app a x (y :: b)).1 h).2
theorem filter_ne_of_not_mem {i : Nat} : ∀ (l : List Nat), i ∉ l → l.filter (fun x => x != i) = l := fun l h => List.filter_eq_self.2 fun x hx => by simp; rintro rfl; exact h hx
theorem exists_last (x : Nat) (a : List Nat) : ∃ a' p, x :: a = a' ++ [p] := ⟨(x :: a).dropLast, (x :: a).getLast (by simp), (List.dropLast_concat_getLast (by simp)).symm⟩
theorem Cyc.dropF {n : Nat} {S : LS} {o : List Nat} (h : Cyc n S o) {i : Nat} (hi : i < n) : Cyc n (dropF S i) (o.filter (fun x => x != i)) := by
  unfold Ytgfkfmnncjjopaa.dropF
  by_cases ht : S.th i = true
  · rw [if_pos ht]
    have hm : i ∈ o := (h.th i hi).1 ht
    obtain ⟨a, b, rfl⟩ := List.append_of_mem hm
    have hnd := h.nd
    rw [List.nodup_append] at hnd
    obtain ⟨nda, ndb, dis⟩ := hnd
    obtain ⟨hib, ndb⟩ := List.nodup_cons.1 ndb
    have hia : i ∉ a := fun hx => dis i hx i (by simp) rfl
    have hna : ∀ x ∈ a, x < n := fun x hx => h.lt x (by simp [hx])
    have hnb : ∀ x ∈ b, x < n := fun x hx => h.lt x (by simp [hx])
    have hf : (a ++ i :: b).filter (fun x => x != i) = a ++ b := by
      rw [List.filter_append, filter_ne_of_not_mem a hia, List.filter_cons]
      simp [filter_ne_of_not_mem b hib]
    rw [hf]
    obtain ⟨a', p, ha⟩ := exists_last n a
    obtain ⟨s, b', hb⟩ : ∃ s b', b ++ [n] = s :: b' := by
      cases b with
      | nil => exact ⟨n, [], rfl⟩
      | cons y r => exact ⟨y, r ++ [n], rfl⟩
    have hc : n :: ((a ++ i :: b) ++ [n]) = a' ++ p :: i :: s :: b' := by
      calc n :: ((a ++ i :: b) ++ [n]) = (n :: a) ++ i :: (b ++ [n]) := by simp
        _ = _ := by rw [ha, hb]; simp
    have hlk := h.lk
    rw [hc] at hlk
    have h1 := Lk_mid hlk
    have h2 : S.sc i = s ∧ S.pr s = i := Lk_mid (a := a' ++ [p]) (by simpa using hlk)
    have l1 : Lk S (a' ++ [p]) := ((Lk_app a' p _).1 hlk).1
    have l2 : Lk S (s :: b') := by
      have := (Lk_app (a' ++ [p, i]) s b').1 (by simpa using hlk)
      exact this.2
    have ndp : (a' ++ [p]).Nodup := by rw [← ha]; exact List.nodup_cons.2 ⟨fun hx => by have := hna n hx; omega, nda⟩
    have nds : (s :: b').Nodup := by
      rw [← hb, List.nodup_append]
      refine ⟨ndb, by simp, ?_⟩
      intro x hx y hy
      have := hnb x hx; simp at hy; omega
    have pin : p = n ∨ p ∈ a := by
      have : p ∈ n :: a := by rw [ha]; simp
      simpa using this
    have sin : s = n ∨ s ∈ b := by
      have : s ∈ b ++ [n] := by rw [hb]; simp
      simp at this; exact this.symm
    have hpi : p ≠ i := by rcases pin with rfl | hp; omega; rintro rfl; exact hia hp
    have hsi : s ≠ i := by rcases sin with rfl | hp; omega; rintro rfl; exact hib hp
    refine ⟨?_, ?_, ?_, ?_⟩
    · rw [List.nodup_append]; exact ⟨nda, ndb, fun x hx y hy => dis x hx y (by simp [hy])⟩
    · intro x hx; rw [List.mem_append] at hx; rcases hx with hx | hx; exact hna x hx; exact hnb x hx
    · intro x hx
      have := h.th x hx
      unfold dropS
      dsimp only
      by_cases hxi : x = i
      · subst hxi; rw [fset_same]; simp [hia, hib]
      · rw [fset_ne _ _ hxi, this]; simp [hxi]
    · have e : n :: ((a ++ b) ++ [n]) = a' ++ p :: s :: b' := by
        calc n :: ((a ++ b) ++ [n]) = (n :: a) ++ (b ++ [n]) := by simp
          _ = _ := by rw [ha, hb]; simp
      rw [e, Lk_app]
      have es : ∀ x, x ≠ p → x ≠ i → (dropS S i).sc x = S.sc x := fun x h3 h4 => by unfold dropS; dsimp only; rw [fset_ne _ _ h4, h1.2, fset_ne _ _ h3]
      have ep : ∀ x, x ≠ s → x ≠ i → (dropS S i).pr x = S.pr x := fun x h3 h4 => by unfold dropS; dsimp only; rw [fset_ne _ _ h4, h2.1, fset_ne _ _ h3]
      refine ⟨Lk_congr _ ?_ ?_ l1, ?_, ?_, Lk_congr _ ?_ ?_ l2⟩
      · intro x hx
        rw [List.dropLast_concat] at hx
        have hxp : x ≠ p := by rintro rfl; rw [List.nodup_append] at ndp; exact ndp.2.2 x hx x (by simp) rfl
        have hxa : x = n ∨ x ∈ a := by
          have : x ∈ n :: a := by rw [ha]; simp [hx]
          simpa using this
        exact es x hxp (by rcases hxa with rfl | hp; omega; rintro rfl; exact hia hp)
      · intro y hy
        rw [← ha, List.tail_cons] at hy
        refine ep y ?_ (by rintro rfl; exact hia hy)
        rintro rfl
        rcases sin with rfl | hs
        · have := hna _ hy; omega
        · exact dis _ hy _ (by simp [hs]) rfl
      · unfold dropS; dsimp only; rw [fset_ne _ _ hpi, h1.2, fset_same, h2.1]
      · unfold dropS; dsimp only; rw [fset_ne _ _ hsi, h2.1, fset_same, h1.2]
      · intro x hx
        rw [← hb, List.dropLast_concat] at hx
        refine es x ?_ (by rintro rfl; exact hib hx)
        rintro rfl
        rcases pin with rfl | hp
        · have := hnb _ hx; omega
        · exact dis _ hp _ (by simp [hx]) rfl
      · intro y hy
        simp only [List.tail_cons] at hy
        have hys : y ≠ s := by rintro rfl; exact (List.nodup_cons.1 nds).1 hy
        refine ep y hys ?_
        rintro rfl
        have : y ∈ b ++ [n] := by rw [hb]; simp [hy]
        simp at this
        rcases this with h5 | h5
        · exact hib h5
        · omega
  · rw [if_neg ht, filter_ne_of_not_mem]
    · exact h
    · intro hm; exact ht ((h.th i hi).2 hm)
theorem Cyc.useF {n : Nat} {S : LS} {o : List Nat} (h : Cyc n S o) {i : Nat} (hi : i < n) : Cyc n (useF n S i) (i :: o.filter (fun x => x != i)) := by
  have h1 := h.dropF hi
  have hni : i ∉ o.filter (fun x => x != i) := by simp
  unfold Ytgfkfmnncjjopaa.useF
  generalize Ytgfkfmnncjjopaa.dropF S i = S1 at *
  generalize o.filter (fun x => x != i) = o1 at *
  obtain ⟨s, b', hb⟩ : ∃ s b', o1 ++ [n] = s :: b' := by
    cases o1 with
    | nil => exact ⟨n, [], rfl⟩
    | cons y r => exact ⟨y, r ++ [n], rfl⟩
  have hlk := h1.lk
  rw [hb] at hlk
  have hs := Lk_head hlk
  have sin : s = n ∨ s ∈ o1 := by
    have : s ∈ o1 ++ [n] := by rw [hb]; simp
    simp at this; exact this.symm
  have hsi : s ≠ i := by rcases sin with rfl | hp; omega; rintro rfl; exact hni hp
  have hin : i ≠ n := by omega
  have nds : (s :: b').Nodup := by
    rw [← hb, List.nodup_append]
    refine ⟨h1.nd, by simp, ?_⟩
    intro x hx y hy
    have := h1.lt x hx; simp at hy; omega
  dsimp only
  rw [hs.1]
  refine ⟨List.nodup_cons.2 ⟨hni, h1.nd⟩, ?_, ?_, ?_⟩
  · intro x hx; rcases List.mem_cons.1 hx with rfl | hx; exact hi; exact h1.lt x hx
  · intro x hx
    have := h1.th x hx
    by_cases hxi : x = i
    · subst hxi; simp [fset_same]
    · dsimp only; rw [fset_ne _ _ hxi, this]; simp [hxi]
  · show Lk _ (n :: i :: (o1 ++ [n]))
    rw [hb]
    refine ⟨by dsimp only; rw [fset_same], by dsimp only; rw [fset_ne _ _ (Ne.symm hsi), fset_same], by dsimp only; rw [fset_ne _ _ hin, fset_same], by dsimp only; rw [fset_same], ?_⟩
    refine Lk_congr _ ?_ ?_ hlk.2.2
    · intro x hx
      rw [← hb, List.dropLast_concat] at hx
      dsimp only
      rw [fset_ne _ _ (by rintro rfl; have := h1.lt _ hx; omega), fset_ne _ _ (by rintro rfl; exact hni hx)]
    · intro y hy
      simp only [List.tail_cons] at hy
      have hyo : y ∈ o1 ++ [n] := by rw [hb]; simp [hy]
      dsimp only
      rw [fset_ne _ _ (by rintro rfl; exact (List.nodup_cons.1 nds).1 hy), fset_ne _ _ (by
        rintro rfl; simp at hyo; rcases hyo with h5 | h5
        · exact hni h5
        · omega)]
/-- The last one. -/
theorem Cyc.last {n : Nat} {S : LS} {o : List Nat} (h : Cyc n S o) : S.pr n = o.getLastD n := by
  rcases List.eq_nil_or_concat o with rfl | ⟨a, x, rfl⟩
  · exact (Lk_head h.lk).2
  · have := h.lk
    rw [List.concat_eq_append] at *
    have h2 : S.sc x = n ∧ S.pr n = x := Lk_mid (a := n :: a) (b := []) (by simpa using this)
    rw [h2.2]; simp
/-- The k-th one's next. -/
theorem Cyc.next {n : Nat} {S : LS} {o a b : List Nat} {x : Nat} (h : Cyc n S o) (e : o = a ++ x :: b) : S.sc x = b.headD n := by
  subst e
  have := h.lk
  cases b with
  | nil => exact (Lk_mid (a := n :: a) (b := []) (y := n) (by simpa using this)).1
  | cons y r => exact (Lk_mid (a := n :: a) (b := r ++ [n]) (y := y) (by simpa using this)).1
theorem Cyc.first {n : Nat} {S : LS} {o : List Nat} (h : Cyc n S o) : S.sc n = o.headD n := by
  have := h.lk
  cases o with
  | nil => exact (Lk_head this).1
  | cons y r => exact (Lk_head this).1
end Go.Proofs.Ytgfkfmnncjjopaa
