import Derived.Test.YtepceielndmjgaaSF
namespace Go.Proofs.Ytepceielndmjgaa
open Go.RowKit Go.Tat Go.Proofs.YtepceielndmjgaaW.PrintWords PSweepTells
/-! ### Small functions -/
abbrev keys41 (l : List S41) : List ByteArray := l.map (fun r => r.f0)
structure UnlikeP (l : List S41) : Prop where
  len : l.length ≤ 60
  nd : (keys41 l).Nodup
theorem take_keys {l : List S41} {i : Nat} (hi : i < l.length) : keys41 (l.take (i + 1)) = keys41 (l.take i) ++ [l[i].f0] := by
  unfold keys41
  rw [← List.take_append_getElem hi, List.map_append]
  rfl
theorem unlike_l1 (l : List S41) (hl : l.length ≤ 60) (i : Nat) (hi : i < l.length) (hnd : (keys41 (l.take i)).Nodup) (B : Nat)
    (ih : (keys41 (l.take (i + 1))).Nodup → ∃ b, (∀ k, B < k → tattlerref15_Unlike.l0 k l (l.length : Int) ((i + 1 : Nat) : Int) = some b) ∧ (b = true → (keys41 l).Nodup)) (e : Nat) :
    ∀ j, j + e = i → (∀ m (h : m < l.length), m < j → l[m].f0 ≠ l[i].f0) → ∃ b, (∀ k, B + e + 1 < k → tattlerref15_Unlike.l1 k l (i : Int) (j : Int) (l.length : Int) (i : Int) = some b) ∧ (b = true → (keys41 l).Nodup) := by
  induction e with
  | zero =>
    intro j hj hm
    obtain ⟨b, hb, hn⟩ := ih (by
      rw [take_keys hi, List.nodup_append]
      refine ⟨hnd, by simp, fun a ha c hc => ?_⟩
      rw [List.mem_singleton.1 hc]
      obtain ⟨r, hr, rfl⟩ := List.mem_map.1 ha
      obtain ⟨m, hm1, hm2⟩ := List.mem_iff_getElem.1 hr
      rw [List.getElem_take] at hm2
      rw [List.length_take] at hm1
      rw [← hm2]
      exact hm m (by omega) (by omega))
    refine ⟨b, fun k hk => ?_, hn⟩
    obtain ⟨k, rfl⟩ : ∃ k', k = k' + 1 := ⟨k - 1, by omega⟩
    have h1 : ¬ (j : Int) < (i : Int) := by omega
    rw [tattlerref15_Unlike.l1, if_neg h1, wrap64_succ hi (by omega)]
    exact hb k (by omega)
  | succ e ihe =>
    intro j hj hm
    have h1 : (j : Int) < (i : Int) := by omega
    have h2 : (0 : Int) ≤ (j : Int) := by omega
    have h3 : (j : Int) < (l.length : Int) := by omega
    have h4 : (0 : Int) ≤ (i : Int) := by omega
    have h5 : (i : Int) < (l.length : Int) := by omega
    have hj' : j < l.length := by omega
    by_cases hk : l[j].f0 = l[i].f0
    · refine ⟨false, fun k hk' => ?_, fun h => by cases h⟩
      obtain ⟨k, rfl⟩ : ∃ k', k = k' + 1 := ⟨k - 1, by omega⟩
      rw [tattlerref15_Unlike.l1, if_pos h1, if_pos h2, if_pos h3, if_pos h4, if_pos h5, rd41 l j hj', rd41 l i hi, if_pos (toList_inj.2 hk)]
    · obtain ⟨b, hb, hn⟩ := ihe (j + 1) (by omega) (fun m h hlt => by
        rcases Nat.lt_or_ge m j with h6 | h6
        · exact hm m h h6
        · have : m = j := by omega
          subst this
          exact hk)
      refine ⟨b, fun k hk' => ?_, hn⟩
      obtain ⟨k, rfl⟩ : ∃ k', k = k' + 1 := ⟨k - 1, by omega⟩
      rw [tattlerref15_Unlike.l1, if_pos h1, if_pos h2, if_pos h3, if_pos h4, if_pos h5, rd41 l j hj', rd41 l i hi, if_neg (fun h => hk (toList_inj.1 h)), wrap64_succ (i := j) (m := l.length) hj' (by omega)]
      exact hb k (by omega)
theorem unlike_l0 (l : List S41) (hl : l.length ≤ 60) (d : Nat) : ∀ i, i + d = l.length → (keys41 (l.take i)).Nodup → ∃ b, (∀ k, d * 70 + 3 < k → tattlerref15_Unlike.l0 k l (l.length : Int) (i : Int) = some b) ∧ (b = true → (keys41 l).Nodup) := by
  induction d with
  | zero =>
    intro i h hn
    refine ⟨true, fun k hk => ?_, fun _ => by rw [List.take_of_length_le (by omega)] at hn; exact hn⟩
    obtain ⟨k, rfl⟩ : ∃ k', k = k' + 1 := ⟨k - 1, by omega⟩
    have h1 : ¬ (i : Int) < (l.length : Int) := by omega
    rw [tattlerref15_Unlike.l0, if_neg h1]
  | succ d ih =>
    intro i h hn
    have h1 : (i : Int) < (l.length : Int) := by omega
    have h2 : (0 : Int) ≤ (i : Int) := by omega
    have h4 : i < l.length := by omega
    by_cases hc : (l[i].f0.size : Int) > 1000 ∨ (l[i].f5.size : Int) > 3000
    · refine ⟨false, fun k hk => ?_, fun h => by cases h⟩
      obtain ⟨k, rfl⟩ : ∃ k', k = k' + 2 := ⟨k - 2, by omega⟩
      rw [tattlerref15_Unlike.l0, if_pos h1, if_pos h2, if_pos h1, rd41 l i h4]
      by_cases hs : (l[i].f0.size : Int) > 1000
      · rw [if_pos hs, tattlerref15_Unlike.j1, if_pos rfl]
      · rw [if_neg hs, decide_eq_true (hc.resolve_left hs), tattlerref15_Unlike.j1, if_pos rfl]
    · obtain ⟨b, hb, hn'⟩ := unlike_l1 l hl i h4 hn (d * 70 + 3) (fun hnd => ih (i + 1) (by omega) hnd) i 0 (by omega) (fun m _ hm => by omega)
      refine ⟨b, fun k hk => ?_, hn'⟩
      obtain ⟨k, rfl⟩ : ∃ k', k = k' + 2 := ⟨k - 2, by omega⟩
      have hc1 : ¬ (l[i].f0.size : Int) > 1000 := fun h => hc (.inl h)
      have hc2 : ¬ (l[i].f5.size : Int) > 3000 := fun h => hc (.inr h)
      rw [tattlerref15_Unlike.l0, if_pos h1, if_pos h2, if_pos h1, rd41 l i h4, if_neg hc1, decide_eq_false hc2, tattlerref15_Unlike.j1, if_neg (by decide)]
      exact hb k (by omega)
theorem unlike_is (l : List S41) : ∃ b, tattlerref15_Unlike.f 5000 l = some b ∧ (b = true → UnlikeP l) := by
  unfold tattlerref15_Unlike.f
  by_cases hl : (l.length : Int) > 60
  · exact ⟨false, if_pos hl, fun h => by cases h⟩
  · obtain ⟨b, hb, hn⟩ := unlike_l0 l (by omega) l.length 0 (by omega) (by simp)
    exact ⟨b, by rw [if_neg hl]; exact hb 5000 (by omega), fun h => ⟨by omega, hn h⟩⟩
theorem unlike_c (l : List S41) (A : Option Addr) (c : Nat) (w : World) (h : k41.C w A l.length l) (hc : l.length ≤ c) : ∃ b, (b = true → UnlikeP l) ∧ Calls Try.prog 7 #[.slice A l.length c] w fun e w' => e = .returned (.bool b) ∧ Drawn0 w w' := by
  obtain ⟨b, hb, hn⟩ := unlike_is l
  exact ⟨b, hn, tattlerref15_Unlike.calls 5000 A c l b w h hc hb⟩
theorem great_l0 (l : List S43) (hl : l.length ≤ 100) : ∀ d i k, i + d = l.length → d < k → ∃ b, tattlerlaw15_great.l0 k l (l.length : Int) (i : Int) = some b
  | 0, i, k + 1, h, _ => by
    have h1 : ¬ (i : Int) < (l.length : Int) := by omega
    rw [tattlerlaw15_great.l0, if_neg h1]
    exact ⟨_, rfl⟩
  | d + 1, i, k + 1, h, hk => by
    have h1 : (i : Int) < (l.length : Int) := by omega
    have h2 : (0 : Int) ≤ (i : Int) := by omega
    have h4 : i < l.length := by omega
    rw [tattlerlaw15_great.l0, if_pos h1, if_pos h2, if_pos h1, wrap64_succ h4 (by omega)]
    split
    · exact ⟨_, rfl⟩
    · exact great_l0 l hl d (i + 1) k (by omega) (by omega)
theorem great_c (l : List S43) (A : Option Addr) (c : Nat) (w : World) (h : k43.C w A l.length l) (hc : l.length ≤ c) : ∃ b, (b = false → l.length ≤ 100) ∧ Calls Try.prog 8 #[.slice A l.length c] w fun e w' => e = .returned (.bool b) ∧ Below w.heap.size w w' := by
  by_cases hl : (l.length : Int) > 100
  · refine ⟨true, (fun h => by cases h), tattlerlaw15_great.calls 1 A c l true w h hc ?_⟩
    unfold tattlerlaw15_great.f
    rw [if_pos hl]
  · obtain ⟨b, hb⟩ := great_l0 l (by omega) l.length 0 (l.length + 1) (by omega) (by omega)
    refine ⟨b, fun _ => by omega, tattlerlaw15_great.calls (l.length + 1) A c l b w h hc ?_⟩
    unfold tattlerlaw15_great.f
    rw [if_neg hl]
    exact hb
theorem same06_l (l : List S41) (hl : l.length ≤ 1000000) : ∀ d i k, i + d = l.length → d < k → tattlerref06_Same.l0 k l l (l.length : Int) (i : Int) = some true
  | 0, i, k + 1, h, _ => by
    have h1 : ¬ (i : Int) < (l.length : Int) := by omega
    rw [tattlerref06_Same.l0, if_neg h1]
  | d + 1, i, k + 1, h, hk => by
    have h1 : (i : Int) < (l.length : Int) := by omega
    have h2 : (0 : Int) ≤ (i : Int) := by omega
    rw [tattlerref06_Same.l0, if_pos h1, if_pos h2, if_pos h1, if_pos h1, if_neg (by simp), wrap64_succ (m := l.length) (by omega) (by omega)]
    exact same06_l l hl d (i + 1) k (by omega) (by omega)
theorem same06_c (l : List S41) (hl : l.length ≤ 1000000) (A B : Option Addr) (c c' : Nat) (w : World) (hA : k41.C w A l.length l) (hc : l.length ≤ c) (hB : k41.C w B l.length l) (hc' : l.length ≤ c') : Calls Try.prog 13 #[.slice A l.length c, .slice B l.length c'] w fun e w' => e = .returned (.bool true) ∧ Drawn0 w w' := by
  refine tattlerref06_Same.calls (l.length + 1) A c l B c' l true w hA hc hB hc' ?_
  unfold tattlerref06_Same.f
  rw [if_pos rfl]
  exact same06_l l hl l.length 0 _ (by omega) (by omega)
theorem sameS_l (l : List S43) (hl : l.length ≤ 1000000) : ∀ d i k, i + d = l.length → d < k → tattlerref15_SameSeen.l0 k l l (l.length : Int) (i : Int) = some true
  | 0, i, k + 1, h, _ => by
    have h1 : ¬ (i : Int) < (l.length : Int) := by omega
    rw [tattlerref15_SameSeen.l0, if_neg h1]
  | d + 1, i, k + 1, h, hk => by
    have h1 : (i : Int) < (l.length : Int) := by omega
    have h2 : (0 : Int) ≤ (i : Int) := by omega
    rw [tattlerref15_SameSeen.l0, if_pos h1, if_pos h2, if_pos h1, if_pos h1, if_neg (by simp), wrap64_succ (m := l.length) (by omega) (by omega)]
    exact sameS_l l hl d (i + 1) k (by omega) (by omega)
theorem sameS_c (l : List S43) (hl : l.length ≤ 1000000) (A B : Option Addr) (c c' : Nat) (w : World) (hA : k43.C w A l.length l) (hc : l.length ≤ c) (hB : k43.C w B l.length l) (hc' : l.length ≤ c') : Calls Try.prog 10 #[.slice A l.length c, .slice B l.length c'] w fun e w' => e = .returned (.bool true) ∧ Drawn0 w w' := by
  refine tattlerref15_SameSeen.calls (l.length + 1) A c l B c' l true w hA hc hB hc' ?_
  unfold tattlerref15_SameSeen.f
  rw [if_pos rfl]
  exact sameS_l l hl l.length 0 _ (by omega) (by omega)
theorem same10_l (l : List ByteArray) (hl : l.length ≤ 1000000) : ∀ d i k, i + d = l.length → d < k → tattlerref10_Same.l0 k l l (l.length : Int) (i : Int) = some true
  | 0, i, k + 1, h, _ => by
    have h1 : ¬ (i : Int) < (l.length : Int) := by omega
    rw [tattlerref10_Same.l0, if_neg h1]
  | d + 1, i, k + 1, h, hk => by
    have h1 : (i : Int) < (l.length : Int) := by omega
    have h2 : (0 : Int) ≤ (i : Int) := by omega
    rw [tattlerref10_Same.l0, if_pos h1, if_pos h2, if_pos h1, if_pos h1, if_pos rfl, wrap64_succ (m := l.length) (by omega) (by omega)]
    exact same10_l l hl d (i + 1) k (by omega) (by omega)
theorem same10_c (l : List ByteArray) (hl : l.length ≤ 1000000) (A B : Option Addr) (c c' : Nat) (w : World) (hA : Kd.string.C w A l.length l) (hc : l.length ≤ c) (hB : Kd.string.C w B l.length l) (hc' : l.length ≤ c') : Calls Try.prog 16 #[.slice A l.length c, .slice B l.length c'] w fun e w' => e = .returned (.bool true) ∧ Drawn0 w w' := by
  refine tattlerref10_Same.calls (l.length + 1) A c l B c' l true w hA hc hB hc' ?_
  unfold tattlerref10_Same.f
  rw [if_pos rfl]
  exact same10_l l hl l.length 0 _ (by omega) (by omega)
def seenPost (w : World) (r : List S43) (e : Ending) (w' : World) : Prop := ∃ v, e = .returned v ∧ St (fun _ => False) w w' [slc k43 43 v r]
theorem sum_c (l : List S41) (hl : l.length ≤ 1000000) (A : Option Addr) (c : Nat) (w : World) (h : k41.C w A l.length l) (hc : l.length ≤ c) : Calls Try.prog 11 #[.slice A l.length c] w (seenPost w (l.map seenS)) := by
  refine (sweep_Summary.calls (l.length + 1) A c l _ w h hc (sum_is l hl)).mono ?_
  rintro e w' ⟨v, rfl, hR, hB⟩
  exact ⟨v, rfl, St.ofR hR rfl hB⟩
theorem rsum_c (l : List S41) (hl : l.length ≤ 1000000) (A : Option Addr) (c : Nat) (w : World) (h : k41.C w A l.length l) (hc : l.length ≤ c) : Calls Try.prog 12 #[.slice A l.length c] w (seenPost w (l.map seenS)) := by
  refine (tattlerref15_Summary.calls (l.length + 1) A c l _ w h hc (rsum_is l hl _ (by omega))).mono ?_
  rintro e w' ⟨v, rfl, hR, hB⟩
  exact ⟨v, rfl, St.ofR hR rfl hB⟩
theorem rpush_c (mine : List S41) (theirs : List S43) (hm : mine.length ≤ 1000000) (ht : theirs.length ≤ 1000000) (A B : Option Addr) (c c' : Nat) (w : World) (hA : k41.C w A mine.length mine) (hc : mine.length ≤ c) (hB : k43.C w B theirs.length theirs) (hc' : theirs.length ≤ c') : Calls Try.prog 15 #[.slice A mine.length c, .slice B theirs.length c'] w (recPost w (pushL mine theirs)) := by
  refine (tattlerref15_Push.calls _ A c mine B c' theirs _ w hA hc hB hc' (rpush_is mine theirs hm ht)).mono ?_
  rintro e w' ⟨v, rfl, hR, hB⟩
  exact ⟨v, rfl, St.ofR hR rfl hB⟩
def strsPost (w : World) (r : List ByteArray) (e : Ending) (w' : World) : Prop := ∃ v, e = .returned v ∧ St (fun _ => False) w w' [slc Kd.string 9 v r]
theorem rpull_c (mine : List S41) (theirs : List S43) (hm : mine.length ≤ 1000000) (ht : theirs.length ≤ 100000) (A B : Option Addr) (c c' : Nat) (w : World) (hA : k41.C w A mine.length mine) (hc : mine.length ≤ c) (hB : k43.C w B theirs.length theirs) (hc' : theirs.length ≤ c') : Calls Try.prog 18 #[.slice A mine.length c, .slice B theirs.length c'] w (strsPost w (rpullL mine theirs)) := by
  refine (tattlerref15_Pull.calls _ A c mine B c' theirs _ w hA hc hB hc' (rpull_is mine theirs hm ht)).mono ?_
  rintro e w' ⟨v, rfl, hR, hB⟩
  exact ⟨v, rfl, St.ofR hR rfl hB⟩
theorem pull_d (mine : List S41) (theirs : List S43) (Am At : Option Addr) (cm ct : Nat) (W : World) (hM : k41.C W Am mine.length mine) (hT : k43.C W At theirs.length theirs) (hml : mine.length ≤ 1000000) (htl : theirs.length ≤ 1000000) : Calls Try.prog 17 #[.slice Am mine.length cm, .slice At theirs.length ct] W (strsPost W (rpullL mine theirs)) := by
  refine (pull_c mine theirs Am At cm ct W hM hT hml htl).mono ?_
  rintro e w' ⟨v, T, rfl, hp, hs, h⟩
  rw [pull_is hp hs] at h
  exact ⟨v, rfl, h⟩
theorem rpullL_len (mine : List S41) (theirs : List S43) : (rpullL mine theirs).length ≤ theirs.length := by
  have : ∀ (l : List S43) (out : List ByteArray), (l.foldl (stepK (mine.map seenS)) out).length ≤ out.length + l.length := by
    intro l
    induction l with
    | nil => intro out; exact Nat.le_refl _
    | cons t l ih =>
      intro out
      refine Nat.le_trans (ih _) ?_
      have := stepK_len (mine.map seenS) out t
      rw [List.length_cons]
      omega
  have := this theirs []
  simpa [rpullL] using this
end Go.Proofs.Ytepceielndmjgaa
