import Derived.Test.YthkaahpaechljaaVM
namespace Go.Proofs.Ythkaahpaechljaa
open Go.RowKit Go.Tat Go.Proofs.YthkaahpaechljaaW.PrintWords PWheelPlays
/-! ### The document's answers, in plain words -/
theorem rd48 (l : List S48) (i : Nat) (h : i < l.length) : rd_T48 l (i : Int) = l[i] := by
  unfold rd_T48
  simp [h]
def gtT (x : S48) (id due : Int) : Prop := x.f1 > due ∨ (x.f1 = due ∧ x.f0 > id)
instance (x : S48) (id due : Int) : Decidable (gtT x id due) := by unfold gtT; infer_instance
def insT (id due : Int) : List S48 → List S48
  | [] => [⟨id, due⟩]
  | x :: xs => if gtT x id due then ⟨id, due⟩ :: x :: xs else x :: insT id due xs
def not48 (id : Int) (t : S48) : Bool := !(t.f0 == id)
theorem without_l (l : List S48) (id : Int) (hl : l.length ≤ 1000000) : ∀ d i k (out : List S48) (b : Bool), i + d = l.length → d < k → out.length ≤ i →
    tattlerref12_Without.l0 k l id out b (l.length : Int) (i : Int) = some (out ++ (l.drop i).filter (not48 id), b || (l.drop i).any fun t => t.f0 == id)
  | 0, i, k + 1, out, b, h, _, _ => by
    have h1 : ¬ (i : Int) < (l.length : Int) := by omega
    rw [tattlerref12_Without.l0, if_neg h1, List.drop_eq_nil_of_le (by omega)]
    simp
  | d + 1, i, k + 1, out, b, h, hk, ho => by
    have h1 : (i : Int) < (l.length : Int) := by omega
    have h2 : (0 : Int) ≤ (i : Int) := by omega
    have h4 : i < l.length := by omega
    rw [tattlerref12_Without.l0, if_pos h1, if_pos h2, if_pos h1, rd48 l i h4, wrap64_succ h4 (by omega), List.drop_eq_getElem_cons h4]
    by_cases e : (l[i]).f0 = id
    · rw [if_pos e, without_l l id hl d (i + 1) k out true (by omega) (by omega) (by omega)]
      generalize l.drop (i + 1) = R
      simp [not48, e]
    · rw [if_neg e, if_pos (by omega), without_l l id hl d (i + 1) k _ b (by omega) (by omega) (by rw [List.length_append]; simp; omega)]
      have e1 : not48 id l[i] = true := by simp [not48, e]
      have e2 : (l[i].f0 == id) = false := by simp [e]
      rw [List.filter_cons_of_pos e1, List.any_cons, e2, Bool.false_or, List.append_assoc]
      rfl
theorem without_is (l : List S48) (id : Int) (hl : l.length ≤ 1000000) (k : Nat) (hk : l.length < k) : tattlerref12_Without.f k l id = some (l.filter (not48 id), l.any fun t => t.f0 == id) := by
  unfold tattlerref12_Without.f
  have := without_l l id hl l.length 0 k [] false (by omega) hk (Nat.le_refl _)
  simpa using this
theorem addD_l (l : List S48) (id due : Int) (hl : l.length ≤ 1000000) : ∀ d i k (out : List S48), i + d = l.length → d < k → out.length ≤ i + 1 →
    tattlerref12_Add.l0 k id due l out true (l.length : Int) (i : Int) = some (out ++ l.drop i)
  | 0, i, k + 1, out, h, _, _ => by
    have h1 : ¬ (i : Int) < (l.length : Int) := by omega
    rw [tattlerref12_Add.l0, if_neg h1, if_pos rfl, List.drop_eq_nil_of_le (by omega), List.append_nil]
  | d + 1, i, k + 1, out, h, hk, ho => by
    have h1 : (i : Int) < (l.length : Int) := by omega
    have h2 : (0 : Int) ≤ (i : Int) := by omega
    have h4 : i < l.length := by omega
    rw [tattlerref12_Add.l0, if_pos h1, if_pos rfl, if_pos h2, if_pos h1, rd48 l i h4, wrap64_succ h4 (by omega), if_pos (by omega), addD_l l id due hl d (i + 1) k _ (by omega) (by omega) (by rw [List.length_append]; simp; omega), List.drop_eq_getElem_cons h4, List.append_assoc]
    rfl
theorem addN_l (l : List S48) (id due : Int) (hl : l.length ≤ 1000000) : ∀ d i k (out : List S48), i + d = l.length → d < k → out.length ≤ i →
    tattlerref12_Add.l0 k id due l out false (l.length : Int) (i : Int) = some (out ++ insT id due (l.drop i))
  | 0, i, k + 1, out, h, _, _ => by
    have h1 : ¬ (i : Int) < (l.length : Int) := by omega
    rw [tattlerref12_Add.l0, if_neg h1, if_neg (by decide), if_pos (by omega), List.drop_eq_nil_of_le (by omega)]
    rfl
  | d + 1, i, k + 1, out, h, hk, ho => by
    have h1 : (i : Int) < (l.length : Int) := by omega
    have h2 : (0 : Int) ≤ (i : Int) := by omega
    have h4 : i < l.length := by omega
    have hgo : ¬ gtT l[i] id due → tattlerref12_Add.l0 k id due l (out ++ [(⟨(l[i]).f0, (l[i]).f1⟩ : S48)]) false (l.length : Int) ((i + 1 : Nat) : Int) = some (out ++ insT id due (l.drop i)) := fun hn => by
      rw [addN_l l id due hl d (i + 1) k _ (by omega) (by omega) (by rw [List.length_append]; simp; omega), List.drop_eq_getElem_cons h4, insT, if_neg hn, List.append_assoc]
      rfl
    have hin : gtT l[i] id due → ((some (out ++ [(⟨id, due⟩ : S48)] : List S48)).bind fun y => (if y.length < 8796093022208 then (tattlerref12_Add.l0 k id due l (y ++ [(⟨(l[i]).f0, (l[i]).f1⟩ : S48)]) true (l.length : Int) ((i + 1 : Nat) : Int)) else none)) = some (out ++ insT id due (l.drop i)) := fun hy => by
      rw [Option.bind_some, if_pos (by rw [List.length_append]; simp; omega), addD_l l id due hl d (i + 1) k _ (by omega) (by omega) (by rw [List.length_append, List.length_append]; simp; omega), List.drop_eq_getElem_cons h4, insT, if_pos hy, List.append_assoc, List.append_assoc]
      rfl
    rw [tattlerref12_Add.l0, if_pos h1, if_neg (by decide), if_pos h2, if_pos h1, rd48 l i h4, wrap64_succ h4 (by omega)]
    by_cases e1 : (l[i]).f1 > due
    · rw [if_pos e1, if_pos (by omega)]
      exact hin (.inl e1)
    · rw [if_neg e1]
      by_cases e2 : (l[i]).f1 = due
      · rw [if_pos e2]
        by_cases e3 : (l[i]).f0 > id
        · rw [if_pos e3, if_pos (by omega)]
          exact hin (.inr ⟨e2, e3⟩)
        · rw [if_neg e3, if_pos (by omega)]
          exact hgo (by unfold gtT; omega)
      · rw [if_neg e2, if_pos (by omega)]
        exact hgo (by unfold gtT; omega)
def addR (l : List S48) (id due : Int) : List S48 := insT id due (l.filter (not48 id))
theorem add_is (l : List S48) (id due : Int) (hl : l.length ≤ 1000000) : tattlerref12_Add.f (l.length + 1) l id due = some (addR l id due) := by
  unfold tattlerref12_Add.f addR
  rw [without_is l id hl _ (by omega), Option.bind_some]
  have h1 := List.length_filter_le (not48 id) l
  have := addN_l (l.filter (not48 id)) id due (by omega) (l.filter (not48 id)).length 0 (l.length + 1) [] (by omega) (by omega) (Nat.le_refl _)
  exact this
def le48 (now : Int) (t : S48) : Bool := decide (t.f1 ≤ now)
theorem rdue_l (l : List S48) (now : Int) (hl : l.length ≤ 1000000) : ∀ d i k (ids : List Int) (out : List S48), i + d = l.length → d < k → ids.length ≤ i → out.length ≤ i →
    tattlerref12_Due.l0 k l now ids out (l.length : Int) (i : Int) = some (ids ++ ((l.drop i).filter (le48 now)).map S48.f0, out ++ (l.drop i).filter fun t => !le48 now t)
  | 0, i, k + 1, ids, out, h, _, _, _ => by
    have h1 : ¬ (i : Int) < (l.length : Int) := by omega
    rw [tattlerref12_Due.l0, if_neg h1, List.drop_eq_nil_of_le (by omega)]
    simp
  | d + 1, i, k + 1, ids, out, h, hk, ho, ho' => by
    have h1 : (i : Int) < (l.length : Int) := by omega
    have h2 : (0 : Int) ≤ (i : Int) := by omega
    have h4 : i < l.length := by omega
    rw [tattlerref12_Due.l0, if_pos h1, if_pos h2, if_pos h1, rd48 l i h4, wrap64_succ h4 (by omega), List.drop_eq_getElem_cons h4]
    by_cases e : (l[i]).f1 ≤ now
    · rw [if_pos e, if_pos (by omega), rdue_l l now hl d (i + 1) k _ out (by omega) (by omega) (by rw [List.length_append]; simp; omega) (by omega)]
      generalize l.drop (i + 1) = R
      simp [le48, e]
    · rw [if_neg e, if_pos (by omega), rdue_l l now hl d (i + 1) k ids _ (by omega) (by omega) (by omega) (by rw [List.length_append]; simp; omega)]
      generalize l.drop (i + 1) = R
      simp [le48, e]
theorem rdue_is (l : List S48) (now : Int) (hl : l.length ≤ 1000000) : tattlerref12_Due.f (l.length + 1) l now = some ((l.filter (le48 now)).map S48.f0, l.filter fun t => !le48 now t) := by
  unfold tattlerref12_Due.f
  have := rdue_l l now hl l.length 0 (l.length + 1) [] [] (by omega) (by omega) (Nat.le_refl _) (Nat.le_refl _)
  simpa using this
/-! ### The row and the wheel -/
def s56 (t : S48) : S56 := ⟨t.f0, t.f1⟩
structure RowI (r : List S48) : Prop where
  sorted : r.Pairwise fun x y => x.f1 < y.f1 ∨ (x.f1 = y.f1 ∧ x.f0 < y.f0)
  ids : (r.map S48.f0).Nodup
  rng : ∀ t ∈ r, 0 ≤ t.f1 ∧ t.f1 < 18446744073709551616
theorem insT_perm (id due : Int) : ∀ l, (insT id due l).Perm (l ++ [⟨id, due⟩])
  | [] => .refl _
  | x :: xs => by
    unfold insT
    split
    · exact (List.perm_append_comm (l₁ := [_]))
    · exact (insT_perm id due xs).cons x
theorem RowI.filter {r : List S48} (h : RowI r) (p : S48 → Bool) : RowI (r.filter p) := ⟨h.sorted.filter _, (List.filter_sublist.map _).nodup h.ids, fun t ht => h.rng t (List.mem_filter.1 ht).1⟩
theorem insT_sorted (id due : Int) : ∀ (l : List S48), (l.Pairwise fun x y => x.f1 < y.f1 ∨ (x.f1 = y.f1 ∧ x.f0 < y.f0)) → (∀ t ∈ l, t.f0 ≠ id) → (insT id due l).Pairwise fun x y => x.f1 < y.f1 ∨ (x.f1 = y.f1 ∧ x.f0 < y.f0)
  | [], _, _ => List.pairwise_singleton _ _
  | x :: xs, h, hn => by
    unfold insT
    rw [List.pairwise_cons] at h
    split
    · rename_i hg
      unfold gtT at hg
      refine List.pairwise_cons.2 ⟨fun y hy => ?_, List.pairwise_cons.2 h⟩
      rcases List.mem_cons.1 hy with rfl | hy
      · show due < y.f1 ∨ (due = y.f1 ∧ id < y.f0); omega
      · have := h.1 y hy
        show due < y.f1 ∨ (due = y.f1 ∧ id < y.f0)
        omega
    · rename_i hg
      unfold gtT at hg
      have hx := hn x (List.mem_cons_self ..)
      refine List.pairwise_cons.2 ⟨fun y hy => ?_, insT_sorted id due xs h.2 fun t ht => hn t (List.mem_cons_of_mem _ ht)⟩
      rcases List.mem_append.1 ((insT_perm id due xs).mem_iff.1 hy) with hy | hy
      · exact h.1 y hy
      · rw [List.mem_singleton.1 hy]
        show x.f1 < due ∨ (x.f1 = due ∧ x.f0 < id)
        omega
theorem RowI.add {r : List S48} (h : RowI r) (id due : Int) (h0 : 0 ≤ due) (h1 : due < 18446744073709551616) : RowI (addR r id due) := by
  have hf := h.filter (not48 id)
  have hn : ∀ t ∈ r.filter (not48 id), t.f0 ≠ id := fun t ht => by
    have := (List.mem_filter.1 ht).2
    simpa [not48] using this
  have hp := insT_perm id due (r.filter (not48 id))
  refine ⟨insT_sorted id due _ hf.sorted hn, ?_, fun t ht => ?_⟩
  · refine (hp.map S48.f0).symm.nodup ?_
    rw [List.map_append, List.nodup_append]
    refine ⟨hf.ids, by simp, fun a ha b hb => ?_⟩
    obtain ⟨t, ht, rfl⟩ := List.mem_map.1 ha
    simp only [List.map_cons, List.map_nil, List.mem_singleton] at hb
    subst hb
    exact hn t ht
  · rcases List.mem_append.1 (hp.mem_iff.1 ht) with ht | ht
    · exact hf.rng t ht
    · rw [List.mem_singleton.1 ht]; exact ⟨h0, h1⟩
theorem filter_map56 (r : List S48) (p : S48 → Bool) (q : S56 → Bool) (h : ∀ t, q (s56 t) = p t) : (r.map s56).filter q = (r.filter p).map s56 := by
  rw [List.filter_map]
  congr 2
  funext t
  exact h t
theorem addR_perm (r : List S48) (id due : Int) : (addM (r.map s56) id due).Perm ((addR r id due).map s56) := by
  unfold addM addR
  rw [filter_map56 r (not48 id) (notId id) (fun t => rfl)]
  refine List.Perm.symm (((insT_perm id due _).map s56).trans ?_)
  rw [List.map_append]
  exact .refl _
theorem RowI.sorted56 {r : List S48} (h : RowI r) : Sorted56 (r.map s56) := by
  refine List.pairwise_map.2 (h.sorted.imp fun {x y} e => ?_)
  show ¬ (y.f1 < x.f1 ∨ (y.f1 = x.f1 ∧ y.f0 < x.f0))
  omega
theorem RowI.due {r : List S48} (h : RowI r) {now : Int} {ys : List S56} (p : ys.Perm ((r.map s56).filter (dueB now))) (s : Sorted56 ys) : ys.map S56.f0 = (r.filter (le48 now)).map S48.f0 := by
  rw [filter_map56 r (le48 now) (dueB now) (fun t => rfl)] at p
  rw [sorted_eq p s (h.filter _).sorted56, List.map_map]
  rfl
theorem leastI_ge (a : Int) : ∀ l : List S56, (∀ t ∈ l, a ≤ t.f1) → leastI a l = a
  | [], _ => rfl
  | x :: l, h => by
    have h1 := h x (List.mem_cons_self ..)
    show leastI (min a x.f1) l = a
    rw [show min a x.f1 = a by omega]
    exact leastI_ge a l fun t ht => h t (List.mem_cons_of_mem _ ht)
theorem RowI.next {x : S48} {r : List S48} (h : RowI (x :: r)) : nextD ((x :: r).map s56) = x.f1 := by
  have hx := h.rng x (List.mem_cons_self ..)
  unfold nextD
  rw [if_neg (by simp)]
  show leastI (min 18446744073709551615 x.f1) (r.map s56) = x.f1
  rw [show min 18446744073709551615 x.f1 = x.f1 by omega]
  refine leastI_ge _ _ fun t ht => ?_
  obtain ⟨u, hu, rfl⟩ := List.mem_map.1 ht
  have := (List.pairwise_cons.1 h.sorted).1 u hu
  show x.f1 ≤ u.f1
  omega
theorem St.row {F : Nat → Prop} {w0 w : World} {A : List Asr} (h : St F w0 w A) (i : Nat) {g : Nat} {S : Nat → Prop} {m m' : List S56} (hi : A[i]? = some (wO g S m)) (p : m.Perm m') : ∃ S', St F w0 w (A.set i (wO g S' m')) := by
  obtain ⟨⟨mb, V, M, B⟩, S1⟩ := Asr.ex_open (h.get i hi)
  have hv : V.length = 64 ∧ WInv M B m := S1.get 2 rfl
  exact ⟨_, h.exUpd i hi (L1 := wL g m') ⟨mb, V, M, B⟩ (S1.pure 2 rfl (p' := V.length = 64 ∧ WInv M B m') ⟨hv.1, hv.2.to p⟩)⟩
end Go.Proofs.Ythkaahpaechljaa
