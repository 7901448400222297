import Derived.Test.YtepceielndmjgaaSD
namespace Go.Proofs.Ytepceielndmjgaa
open Go.RowKit Go.Tat Go.Proofs.YtepceielndmjgaaW.PrintWords PSweepTells
/-! ### The document's answers, in plain words -/
theorem wrap64_succ {i m : Nat} (h : i < m) (hm : m < 4611686018427387904) : wrap64 ((i : Int) + 1) = ((i + 1 : Nat) : Int) := by unfold wrap64; omega
theorem rd41 (l : List S41) (i : Nat) (h : i < l.length) : rd_T41 l (i : Int) = l[i] := by
  unfold rd_T41
  simp [h]
theorem rd43 (l : List S43) (i : Nat) (h : i < l.length) : rd_T43 l (i : Int) = l[i] := by
  unfold rd_T43
  simp [h]
theorem rdS (l : List ByteArray) (i : Nat) (h : i < l.length) : rdOf ByteArray.empty l (i : Int) = l[i] := by
  unfold rdOf
  simp [h]
theorem toList_inj {a b : ByteArray} : a.toList = b.toList ↔ a = b := by
  rw [ByteArray.toList_eq, ByteArray.toList_eq]
  constructor
  · intro h
    obtain ⟨a⟩ := a
    obtain ⟨b⟩ := b
    simp at h
    rw [h]
  · rintro rfl; rfl
theorem sum_l (l : List S41) (hl : l.length ≤ 1000000) : ∀ d i k (out : List S43), i + d = l.length → d < k → out.length ≤ i → sweep_Summary.l0 k out l (l.length : Int) (i : Int) = some (out ++ (l.drop i).map seenS)
  | 0, i, k + 1, out, h, _, _ => by
    have h1 : ¬ (i : Int) < (l.length : Int) := by omega
    rw [sweep_Summary.l0, if_neg h1, List.drop_eq_nil_of_le (by omega)]
    simp
  | d + 1, i, k + 1, out, h, hk, ho => by
    have h1 : (i : Int) < (l.length : Int) := by omega
    have h2 : (0 : Int) ≤ (i : Int) := by omega
    have h4 : i < l.length := by omega
    rw [sweep_Summary.l0, if_pos h1, if_pos h2, if_pos h1, rd41 l i h4]
    unfold sweep_seen.f
    rw [Option.bind_some, if_pos (by omega), wrap64_succ h4 (by omega), sum_l l hl d (i + 1) k _ (by omega) (by omega) (by rw [List.length_append]; simp; omega), List.drop_eq_getElem_cons h4, List.map_cons, List.append_assoc]
    rfl
theorem sum_is (l : List S41) (hl : l.length ≤ 1000000) : sweep_Summary.f (l.length + 1) l = some (l.map seenS) := by
  have := sum_l l hl l.length 0 (l.length + 1) [] (by omega) (by omega) (Nat.le_refl _)
  simpa [sweep_Summary.f] using this
theorem rsum_l (l : List S41) (hl : l.length ≤ 1000000) : ∀ d i k (out : List S43), i + d = l.length → d < k → out.length ≤ i → tattlerref15_Summary.l0 k l out (l.length : Int) (i : Int) = some (out ++ (l.drop i).map seenS)
  | 0, i, k + 1, out, h, _, _ => by
    have h1 : ¬ (i : Int) < (l.length : Int) := by omega
    rw [tattlerref15_Summary.l0, if_neg h1, List.drop_eq_nil_of_le (by omega)]
    simp
  | d + 1, i, k + 1, out, h, hk, ho => by
    have h1 : (i : Int) < (l.length : Int) := by omega
    have h2 : (0 : Int) ≤ (i : Int) := by omega
    have h4 : i < l.length := by omega
    rw [tattlerref15_Summary.l0, if_pos h1, if_pos h2, if_pos h1, rd41 l i h4, if_pos (by omega), wrap64_succ h4 (by omega), rsum_l l hl d (i + 1) k _ (by omega) (by omega) (by rw [List.length_append]; simp; omega), List.drop_eq_getElem_cons h4, List.map_cons, List.append_assoc]
    rfl
theorem rsum_is (l : List S41) (hl : l.length ≤ 1000000) (k : Nat) (hk : l.length < k) : tattlerref15_Summary.f k l = some (l.map seenS) := by
  have := rsum_l l hl l.length 0 k [] (by omega) hk (Nat.le_refl _)
  simpa [tattlerref15_Summary.f] using this
theorem rbehind_is (a b : S43) : tattlerref15_Behind.f a.f1.f0 a.f1.f1 a.f1.f2 a.f2 b.f1.f0 b.f1.f1 b.f1.f2 b.f2 = some (decide (ltS a b)) := by
  unfold tattlerref15_Behind.f tattlerref05_Less.f
  have h : ∀ (p q : Prop) [Decidable p] [Decidable q], (p ↔ q) → some (decide p) = some (decide q) := fun p q _ _ h => by rw [decide_eq_decide.2 h]
  by_cases h0 : a.f1.f0 = b.f1.f0
  · rw [if_pos h0]
    by_cases h1 : a.f1.f1 = b.f1.f1
    · rw [if_pos h1, Option.bind_some]
      by_cases h2 : a.f1.f2 < b.f1.f2
      · rw [decide_eq_true h2, if_pos rfl]
        have : ltS a b := by unfold ltS; omega
        rw [decide_eq_true this]
      · rw [decide_eq_false h2, if_neg (by decide)]
        by_cases h3 : a.f1.f2 = b.f1.f2
        · rw [if_pos (by simp [h0, h1, h3])]
          exact h _ _ (by unfold ltS; omega)
        · rw [if_neg (by simp [h3])]
          have : ¬ ltS a b := by unfold ltS; omega
          rw [decide_eq_false this]
    · rw [if_neg h1, Option.bind_some]
      by_cases h2 : a.f1.f1 < b.f1.f1
      · rw [decide_eq_true h2, if_pos rfl]
        have : ltS a b := by unfold ltS; omega
        rw [decide_eq_true this]
      · rw [decide_eq_false h2, if_neg (by decide), if_neg (by simp [h1])]
        have : ¬ ltS a b := by unfold ltS; omega
        rw [decide_eq_false this]
  · rw [if_neg h0, Option.bind_some]
    by_cases h2 : a.f1.f0 < b.f1.f0
    · rw [decide_eq_true h2, if_pos rfl]
      have : ltS a b := by unfold ltS; omega
      rw [decide_eq_true this]
    · rw [decide_eq_false h2, if_neg (by decide), if_neg (by simp [h0])]
      have : ¬ ltS a b := by unfold ltS; omega
      rw [decide_eq_false this]
def covB (l : List S43) (s : S43) : Bool := l.any fun x => decide (x.f0 = s.f0) && !decide (ltS x s)
theorem cov_l (l : List S43) (s : S43) (hl : l.length ≤ 1000000) : ∀ d i k, i + d = l.length → d < k → tattlerref15_covered.l0 k l (l.length : Int) (i : Int) s.f0 s.f1.f0 s.f1.f1 s.f1.f2 s.f2 = some (covB (l.drop i) s)
  | 0, i, k + 1, h, _ => by
    have h1 : ¬ (i : Int) < (l.length : Int) := by omega
    rw [tattlerref15_covered.l0, if_neg h1, List.drop_eq_nil_of_le (by omega)]
    rfl
  | d + 1, i, k + 1, h, hk => by
    have h1 : (i : Int) < (l.length : Int) := by omega
    have h2 : (0 : Int) ≤ (i : Int) := by omega
    have h4 : i < l.length := by omega
    have e : covB (l.drop i) s = ((decide (l[i].f0 = s.f0) && !decide (ltS l[i] s)) || covB (l.drop (i + 1)) s) := by
      unfold covB
      rw [List.drop_eq_getElem_cons h4, List.any_cons]
    rw [tattlerref15_covered.l0, if_pos h1, if_pos h2, if_pos h1, rd43 l i h4, e, wrap64_succ h4 (by omega), cov_l l s hl d (i + 1) k (by omega) (by omega)]
    by_cases hk : l[i].f0 = s.f0
    · rw [if_pos (toList_inj.2 hk), rbehind_is, Option.bind_some, decide_eq_true hk]
      by_cases hlt : ltS l[i] s
      · rw [decide_eq_true hlt, if_pos rfl]
        simp
      · rw [decide_eq_false hlt, if_neg (by decide)]
        simp
    · rw [if_neg (fun h => hk (toList_inj.1 h)), decide_eq_false hk]
      simp
theorem cov_is (l : List S43) (s : S43) (hl : l.length ≤ 1000000) (k : Nat) (hk : l.length < k) : tattlerref15_covered.f k l s.f0 s.f1.f0 s.f1.f1 s.f1.f2 s.f2 = some (covB l s) := cov_l l s hl l.length 0 k (by omega) hk
theorem covB_iff (l : List S43) (s : S43) : covB l s = true ↔ ∃ x ∈ l, x.f0 = s.f0 ∧ ¬ ltS x s := by
  unfold covB
  rw [List.any_eq_true]
  simp only [Bool.and_eq_true, decide_eq_true_iff, Bool.not_eq_true', decide_eq_false_iff_not]
theorem pushB_cov (theirs : List S43) (r : S41) : pushB (bestM theirs) r = !covB theirs (seenS r) := by
  have h := bestM_top theirs r.f0
  unfold pushB
  rw [Bool.eq_iff_iff, Bool.not_eq_true', ← Bool.not_eq_true, covB_iff]
  cases hm : mget (bestM theirs) r.f0 with
  | none =>
    rw [hm] at h
    simp only [true_iff]
    rintro ⟨x, hx, hk, _⟩
    exact h x hx hk
  | some s =>
    rw [hm] at h
    obtain ⟨h1, h2, h3⟩ := h
    simp only [decide_eq_true_iff]
    constructor
    · rintro hlt ⟨x, hx, hk, hn⟩
      have := h3 x hx hk
      exact ltS_cotrans this hn hlt
    · intro hn
      refine Decidable.byContradiction fun hc => hn ⟨s, h1, h2, hc⟩
theorem pushL_cov (mine : List S41) (theirs : List S43) : pushL mine theirs = mine.filter fun r => !covB theirs (seenS r) := by
  unfold pushL
  congr
  funext r
  exact pushB_cov theirs r
theorem rpush_l (mine : List S41) (theirs : List S43) (hm : mine.length ≤ 1000000) (ht : theirs.length ≤ 1000000) : ∀ d i k (out : List S41), i + d = mine.length → d + theirs.length + 1 < k → out.length ≤ i → tattlerref15_Push.l0 k mine theirs out (mine.map seenS) (mine.length : Int) (i : Int) = some (out ++ (mine.drop i).filter fun r => !covB theirs (seenS r))
  | 0, i, k + 1, out, h, _, _ => by
    have h1 : ¬ (i : Int) < (mine.length : Int) := by omega
    rw [tattlerref15_Push.l0, if_neg h1, List.drop_eq_nil_of_le (by omega)]
    simp
  | d + 1, i, k + 1, out, h, hk, ho => by
    have h1 : (i : Int) < (mine.length : Int) := by omega
    have h2 : (0 : Int) ≤ (i : Int) := by omega
    have h4 : i < mine.length := by omega
    have h5 : i < (mine.map seenS).length := by rw [List.length_map]; exact h4
    have e : (mine.map seenS)[i] = seenS mine[i] := by simp
    rw [tattlerref15_Push.l0, if_pos h1, if_pos h2, if_pos (by rw [List.length_map]; exact h1), rd43 _ i h5, e, cov_is theirs (seenS mine[i]) ht k (by omega), Option.bind_some, wrap64_succ h4 (by omega), List.drop_eq_getElem_cons h4, List.filter_cons, rd41 mine i h4]
    cases hc : covB theirs (seenS mine[i]) with
    | true =>
      rw [if_pos rfl, rpush_l mine theirs hm ht d (i + 1) k out (by omega) (by omega) (by omega)]
      rfl
    | false =>
      rw [if_neg (by decide), if_pos h1, if_pos (by omega), rpush_l mine theirs hm ht d (i + 1) k _ (by omega) (by omega) (by rw [List.length_append]; simp; omega), List.append_assoc]
      rfl
theorem rpush_is (mine : List S41) (theirs : List S43) (hm : mine.length ≤ 1000000) (ht : theirs.length ≤ 1000000) : tattlerref15_Push.f (mine.length + theirs.length + 2) mine theirs = some (pushL mine theirs) := by
  unfold tattlerref15_Push.f
  rw [rsum_is mine hm _ (by omega), Option.bind_some]
  have := rpush_l mine theirs hm ht mine.length 0 (mine.length + theirs.length + 2) [] (by omega) (by omega) (Nat.le_refl _)
  rw [pushL_cov]
  simpa using this
end Go.Proofs.Ytepceielndmjgaa
