import Derived.Test.YtepceielndmjgaaSE
namespace Go.Proofs.Ytepceielndmjgaa
open Go.RowKit Go.Tat Go.Proofs.YtepceielndmjgaaW.PrintWords PSweepTells
theorem bl_is (a b : ByteArray) : Op.bytesLess a.toList b.toList = decide (ofB a < ofB b) := by
  rw [bytesLess_eq, ByteArray.toList_eq, ByteArray.toList_eq]
  rfl
theorem ofB_inj {a b : ByteArray} (h : ofB a = ofB b) : a = b := by rw [← toB_ofB a, h, toB_ofB]
theorem lt_of_ge_ne {a b : ByteArray} (h : ¬ ofB a < ofB b) (hne : a ≠ b) : ofB b < ofB a := by
  refine Decidable.byContradiction fun hc => hne (ofB_inj ?_)
  exact List.le_antisymm (List.not_lt.1 hc) (List.not_lt.1 h)
def insK (key : ByteArray) : List ByteArray → List ByteArray
  | [] => [key]
  | y :: ys => if ofB y < ofB key then y :: insK key ys else if y = key then y :: ys else key :: y :: ys
theorem insK_mem (key k : ByteArray) : ∀ l, k ∈ insK key l ↔ k = key ∨ k ∈ l
  | [] => by simp [insK]
  | y :: ys => by
    unfold insK
    split
    · rw [List.mem_cons, insK_mem key k ys, List.mem_cons]
      constructor
      · rintro (h | h | h)
        · exact .inr (.inl h)
        · exact .inl h
        · exact .inr (.inr h)
      · rintro (h | h | h)
        · exact .inr (.inl h)
        · exact .inl h
        · exact .inr (.inr h)
    · split
      · rename_i h
        subst h
        simp
      · simp
theorem insK_len (key : ByteArray) : ∀ l, (insK key l).length ≤ l.length + 1
  | [] => by simp [insK]
  | y :: ys => by
    unfold insK
    have := insK_len key ys
    split
    · simp only [List.length_cons]; omega
    · split <;> simp
def Rising (l : List ByteArray) : Prop := l.Pairwise fun a b => ofB a < ofB b
theorem insK_rising (key : ByteArray) : ∀ l, Rising l → Rising (insK key l)
  | [], _ => List.pairwise_singleton _ _
  | y :: ys, h => by
    have h0 := h
    unfold Rising at h
    rw [List.pairwise_cons] at h
    unfold insK
    split
    · rename_i hlt
      refine List.pairwise_cons.2 ⟨fun b hb => ?_, insK_rising key ys h.2⟩
      rcases (insK_mem key b ys).1 hb with rfl | hb
      · exact hlt
      · exact h.1 b hb
    · split
      · exact h0
      · rename_i h1 h2
        have hk := lt_of_ge_ne h1 h2
        refine List.pairwise_cons.2 ⟨fun b hb => ?_, h0⟩
        rcases List.mem_cons.1 hb with rfl | hb
        · exact hk
        · exact List.lt_trans hk (h.1 b hb)
theorem rising_unique {l l' : List ByteArray} (h : Rising l) (h' : Rising l') (hm : ∀ k, k ∈ l ↔ k ∈ l') : l = l' := by
  have nd : ∀ {l : List ByteArray}, Rising l → l.Nodup := fun h => h.imp fun {a b} h e => by subst e; exact List.lt_irrefl _ h
  exact List.Perm.eq_of_pairwise (le := fun a b => ofB a < ofB b) (fun a b _ _ n1 n2 => (List.lt_asymm n1 n2).elim) h h' ((List.perm_ext_iff_of_nodup (nd h) (nd h')).2 hm)
def stepK (s : List S43) (out : List ByteArray) (t : S43) : List ByteArray := if covB s t = true then out else insK t.f0 out
def rpullL (mine : List S41) (theirs : List S43) : List ByteArray := theirs.foldl (stepK (mine.map seenS)) []
theorem stepK_len (s : List S43) (out : List ByteArray) (t : S43) : (stepK s out t).length ≤ out.length + 1 := by
  unfold stepK
  split
  · omega
  · exact insK_len _ _
theorem rpull_l1 (theirs : List S43) (s : List S43) (out : List ByteArray) (ho : out.length ≤ 1000000) (i : Nat) (hi : i < theirs.length) (ht : theirs.length ≤ 1000000) (B : Nat)
    (ih : ∀ (o : List ByteArray) (k : Nat), o.length ≤ out.length + 1 → B < k → tattlerref15_Pull.l0 k theirs o s (theirs.length : Int) ((i + 1 : Nat) : Int) = some ((theirs.drop (i + 1)).foldl (stepK s) o)) :
    ∀ (e j k : Nat), j + e = out.length → e + 1 + B < k → tattlerref15_Pull.l1 k theirs out s (i : Int) (j : Int) (theirs.length : Int) (i : Int) = some ((theirs.drop (i + 1)).foldl (stepK s) (out.take j ++ insK theirs[i].f0 (out.drop j))) := by
  have hi0 : (0 : Int) ≤ (i : Int) := by omega
  have hi1 : (i : Int) < (theirs.length : Int) := by omega
  have hb : ∀ n : Nat, n ≤ 1000001 → n < 8796093022208 := fun n h => by omega
  intro e
  induction e with
  | zero =>
    intro j k hj hk
    obtain ⟨k, rfl⟩ : ∃ k', k = k' + 1 := ⟨k - 1, by omega⟩
    have h1 : ¬ (j : Int) < (out.length : Int) := by omega
    have h2 : (0 : Int) ≤ (j : Int) := by omega
    have h3 : (j : Int) ≤ (out.length : Int) := by omega
    rw [tattlerref15_Pull.l1, if_neg h1, Option.bind_some, if_pos h2, if_pos h3, Option.bind_some, Int.toNat_natCast, List.take_of_length_le (by omega), List.drop_eq_nil_of_le (by omega), List.nil_append]
    rw [if_pos (by simp only [List.length_nil]; omega), Option.bind_some, if_pos hi0, if_pos hi1, if_pos (by omega), Option.bind_some, Option.bind_some, rd43 theirs i hi, if_pos (by rw [List.length_append]; simp only [List.length_cons, List.length_nil]; omega), wrap64_succ hi (by omega), List.append_nil]
    exact ih _ _ (by rw [List.length_append]; simp) (by omega)
  | succ e ihe =>
    intro j k hj hk
    obtain ⟨k, rfl⟩ : ∃ k', k = k' + 1 := ⟨k - 1, by omega⟩
    have h1 : (j : Int) < (out.length : Int) := by omega
    have h2 : (0 : Int) ≤ (j : Int) := by omega
    have h4 : j < out.length := by omega
    have h3 : (j : Int) ≤ (out.length : Int) := by omega
    rw [tattlerref15_Pull.l1, if_pos h1, if_pos h2, if_pos hi0, if_pos hi1, rdS out j h4, rd43 theirs i hi, bl_is, wrap64_succ h4 (by omega), wrap64_succ hi (by omega)]
    have hd : out.drop j = out[j] :: out.drop (j + 1) := List.drop_eq_getElem_cons h4
    have ht1 : out.take (j + 1) = out.take j ++ [out[j]] := (List.take_append_getElem h4).symm
    by_cases hlt : ofB out[j] < ofB theirs[i].f0
    · rw [decide_eq_true hlt, if_pos rfl, ihe (j + 1) k (by omega) (by omega), hd, ht1, List.append_assoc]
      have : insK theirs[i].f0 (out[j] :: out.drop (j + 1)) = out[j] :: insK theirs[i].f0 (out.drop (j + 1)) := if_pos hlt
      rw [this]
      rfl
    · rw [decide_eq_false hlt, if_neg (by decide)]
      by_cases heq : out[j] = theirs[i].f0
      · rw [if_pos (toList_inj.2 heq), ih out k (by omega) (by omega)]
        have : insK theirs[i].f0 (out.drop j) = out.drop j := by
          rw [hd]
          show (if _ then _ else _) = _
          rw [if_neg hlt, if_pos heq]
        rw [this, List.take_append_drop]
      · rw [if_neg (fun h => heq (toList_inj.1 h)), Option.bind_some, if_pos h3, Option.bind_some, Int.toNat_natCast, List.nil_append]
        have hl1 : (out.take j).length ≤ 1000000 := by rw [List.length_take]; omega
        have hl2 : (out.take j).length + (out.drop j).length = out.length := by rw [← List.length_append, List.take_append_drop]
        rw [if_pos (by simp only [List.length_nil]; omega), Option.bind_some, if_pos (by omega), Option.bind_some, Option.bind_some, if_pos (by rw [List.length_append]; simp only [List.length_cons, List.length_nil]; omega)]
        have : insK theirs[i].f0 (out.drop j) = theirs[i].f0 :: out.drop j := by
          rw [hd]
          show (if _ then _ else _) = _
          rw [if_neg hlt, if_neg heq]
        rw [this, ih _ k (by rw [List.length_append, List.length_append]; simp only [List.length_cons, List.length_nil]; omega) (by omega), List.append_assoc]
        rfl
theorem rpull_l0 (theirs : List S43) (s : List S43) (ht : theirs.length ≤ 100000) (hs : s.length ≤ 1000000) (d : Nat) : ∀ (i : Nat) (out : List ByteArray) (k : Nat), i + d = theirs.length → out.length ≤ i → d * (theirs.length + 3) + s.length + 2 < k → tattlerref15_Pull.l0 k theirs out s (theirs.length : Int) (i : Int) = some ((theirs.drop i).foldl (stepK s) out) := by
  induction d with
  | zero =>
    intro i out k h ho hk
    obtain ⟨k, rfl⟩ : ∃ k', k = k' + 1 := ⟨k - 1, by omega⟩
    have h1 : ¬ (i : Int) < (theirs.length : Int) := by omega
    rw [tattlerref15_Pull.l0, if_neg h1, List.drop_eq_nil_of_le (by omega)]
    rfl
  | succ d ih =>
    intro i out k h ho hk
    obtain ⟨k, rfl⟩ : ∃ k', k = k' + 1 := ⟨k - 1, by omega⟩
    have h1 : (i : Int) < (theirs.length : Int) := by omega
    have h2 : (0 : Int) ≤ (i : Int) := by omega
    have h4 : i < theirs.length := by omega
    rw [Nat.succ_mul] at hk
    rw [tattlerref15_Pull.l0, if_pos h1, if_pos h2, if_pos h1, rd43 theirs i h4, cov_is s theirs[i] hs k (by omega), Option.bind_some, List.drop_eq_getElem_cons h4, List.foldl_cons]
    cases hc : covB s theirs[i] with
    | true =>
      have e : stepK s out theirs[i] = out := if_pos hc
      rw [if_pos rfl, wrap64_succ h4 (by omega), ih (i + 1) out k (by omega) (by omega) (by omega), e]
    | false =>
      have e : stepK s out theirs[i] = insK theirs[i].f0 out := if_neg (by rw [hc]; decide)
      rw [if_neg (by decide), e]
      have := rpull_l1 theirs s out (by omega) i h4 (by omega) (d * (theirs.length + 3) + s.length + 2) (fun o k' ho' hk' => ih (i + 1) o k' (by omega) (by omega) (by omega)) out.length 0 k (by omega) (by omega)
      simpa using this
theorem rpull_is (mine : List S41) (theirs : List S43) (hm : mine.length ≤ 1000000) (ht : theirs.length ≤ 100000) : tattlerref15_Pull.f (theirs.length * (theirs.length + 3) + mine.length + 3) mine theirs = some (rpullL mine theirs) := by
  unfold tattlerref15_Pull.f
  rw [rsum_is mine hm _ (by omega), Option.bind_some]
  have := rpull_l0 theirs (mine.map seenS) ht (by rw [List.length_map]; exact hm) theirs.length 0 [] (theirs.length * (theirs.length + 3) + mine.length + 3) (by omega) (Nat.le_refl _) (by rw [List.length_map]; omega)
  exact this
theorem rpullL_go (s : List S43) (theirs : List S43) : ∀ (out : List ByteArray), Rising out → Rising (theirs.foldl (stepK s) out) ∧ ∀ k, k ∈ theirs.foldl (stepK s) out ↔ k ∈ out ∨ ∃ t ∈ theirs, t.f0 = k ∧ covB s t = false := by
  induction theirs with
  | nil => intro out h; exact ⟨h, fun k => by simp⟩
  | cons t l ih =>
    intro out h
    have hr : Rising (stepK s out t) := by
      unfold stepK
      split
      · exact h
      · exact insK_rising _ _ h
    obtain ⟨h1, h2⟩ := ih _ hr
    refine ⟨h1, fun k => ?_⟩
    rw [List.foldl_cons, h2]
    have hm : k ∈ stepK s out t ↔ k ∈ out ∨ (t.f0 = k ∧ covB s t = false) := by
      unfold stepK
      cases hc : covB s t with
      | true => simp
      | false =>
        rw [if_neg (by decide), insK_mem]
        constructor
        · rintro (rfl | h)
          · exact .inr ⟨rfl, rfl⟩
          · exact .inl h
        · rintro (h | ⟨rfl, _⟩)
          · exact .inr h
          · exact .inl rfl
    rw [hm]
    constructor
    · rintro ((h | h) | ⟨u, hu, h⟩)
      · exact .inl h
      · exact .inr ⟨t, by simp, h⟩
      · exact .inr ⟨u, List.mem_cons_of_mem _ hu, h⟩
    · rintro (h | ⟨u, hu, h⟩)
      · exact .inl (.inl h)
      · rcases List.mem_cons.1 hu with rfl | hu
        · exact .inl (.inr h)
        · exact .inr ⟨u, hu, h⟩
/-- Which keys are pulled. -/
def Pulled (mine : List S41) (theirs : List S43) (k : ByteArray) : Prop := ∃ t ∈ theirs, t.f0 = k ∧ ∀ r ∈ mine, r.f0 = k → ltS (seenS r) t
theorem cov_pulled (mine : List S41) (t : S43) : covB (mine.map seenS) t = false ↔ ∀ r ∈ mine, r.f0 = t.f0 → ltS (seenS r) t := by
  rw [← Bool.not_eq_true, covB_iff]
  constructor
  · intro h r hr hk
    refine Decidable.byContradiction fun hc => h ⟨seenS r, List.mem_map.2 ⟨r, hr, rfl⟩, hk, hc⟩
  · rintro h ⟨x, hx, hk, hn⟩
    obtain ⟨r, hr, rfl⟩ := List.mem_map.1 hx
    exact hn (h r hr hk)
theorem rpullL_mem (mine : List S41) (theirs : List S43) (k : ByteArray) : k ∈ rpullL mine theirs ↔ Pulled mine theirs k := by
  unfold rpullL Pulled
  rw [(rpullL_go _ theirs [] List.Pairwise.nil).2]
  simp only [List.not_mem_nil, false_or]
  constructor
  · rintro ⟨t, ht, rfl, hc⟩
    exact ⟨t, ht, rfl, (cov_pulled mine t).1 hc⟩
  · rintro ⟨t, ht, rfl, hc⟩
    exact ⟨t, ht, rfl, (cov_pulled mine t).2 hc⟩
theorem pullK_mem (mine : List S41) (theirs : List S43) (k : ByteArray) : k ∈ (pullK mine theirs).map (·.1) ↔ Pulled mine theirs k := by
  have hn := pullM_nodup mine _ (bestM_nodup theirs)
  have h1 : k ∈ (pullK mine theirs).map (·.1) ↔ mget (pullK mine theirs) k ≠ none := by
    rw [ne_eq, mget_none, Classical.not_not]
  rw [h1]
  unfold pullK
  rw [pullM_get mine _ (bestM_nodup theirs)]
  have ht := bestM_top theirs k
  unfold Pulled
  cases hm : mget (bestM theirs) k with
  | none =>
    rw [hm] at ht
    simp only [ne_eq, not_true_eq_false, false_iff]
    rintro ⟨t, h, hk, _⟩
    exact ht t h hk
  | some s =>
    rw [hm] at ht
    obtain ⟨t1, t2, t3⟩ := ht
    simp only
    split
    · rename_i h
      simp only [ne_eq, reduceCtorEq, not_false_eq_true, true_iff]
      exact ⟨s, t1, t2, h⟩
    · rename_i h
      simp only [ne_eq, not_true_eq_false, false_iff]
      rintro ⟨t, h3, hk, h4⟩
      apply h
      intro r hr hrk
      have h5 := t3 t h3 hk
      have h6 := h4 r hr hrk
      exact Decidable.byContradiction fun hc => ltS_cotrans hc h5 h6
theorem pull_is {mine : List S41} {theirs : List S43} {T : List ByteArray} (hp : T.Perm ((pullK mine theirs).map (·.1))) (hs : T.Pairwise fun a b => ofB a ≤ ofB b) : T = rpullL mine theirs := by
  have hn : T.Nodup := hp.nodup_iff.2 (pullM_nodup mine _ (bestM_nodup theirs))
  refine rising_unique ?_ (rpullL_go _ theirs [] List.Pairwise.nil).1 fun k => ?_
  · refine (hs.and hn).imp fun {a b} h => ?_
    exact Decidable.byContradiction fun hc => h.2 (ofB_inj (List.le_antisymm h.1 (List.not_lt.1 hc)))
  · rw [hp.mem_iff, pullK_mem, rpullL_mem]
end Go.Proofs.Ytepceielndmjgaa
