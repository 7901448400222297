import Derived.Test.YtjhmkmcongjngaaQMN
import Derived.Test.YtjhmkmcongjngaaLib
set_option linter.unusedVariables false
set_option linter.unusedSimpArgs false
namespace Go.Proofs.Ytjhmkmcongjngaa
open Go.RowKit Go.Tat Go.Proofs.YtjhmkmcongjngaaW.PrintWords PProbePlays
/-! ### Whom a probe pings: each in each turn -/
theorem swp_perm (l : List Int) (i j : Nat) (hi : i < l.length) (hj : j < l.length) : (swp l i j).Perm l := by
  rw [List.perm_iff_count]
  intro a
  unfold swp
  have e1 : l.getD i 0 = l[i] := by simp [List.getD, List.getElem?_eq_getElem hi]
  have e2 : l.getD j 0 = l[j] := by simp [List.getD, List.getElem?_eq_getElem hj]
  rw [e1, e2, List.count_set (by simpa using hj), List.count_set hi]
  by_cases hij : i = j
  · subst hij
    rw [List.getElem_set_self]
    have : 0 < l.count l[i] := List.count_pos_iff.2 (List.getElem_mem hi)
    by_cases h : l[i] == a
    · have : l[i] = a := by simpa using h
      subst this
      simp <;> omega
    · simp [h]
  · rw [List.getElem_set_ne hij]
    have c1 : 0 < l.count l[i] := List.count_pos_iff.2 (List.getElem_mem hi)
    have c2 : 0 < l.count l[j] := List.count_pos_iff.2 (List.getElem_mem hj)
    by_cases h1 : l[i] = a <;> by_cases h2 : l[j] = a
    · subst h1; simp [h2] <;> omega
    · subst h1; simp [h2] <;> omega
    · subst h2; simp [h1]
    · simp [h1, h2]
theorem mixRow_perm (x : Int) : ∀ (i : Nat) (l : List Int), i < l.length → (mixRow x i l).Perm l
  | 0, l, _ => List.Perm.refl _
  | i + 1, l, h => by
    unfold mixRow
    have hj : (two x ((i + 1 : Nat) : Int) % ((i + 2 : Nat) : Int)).toNat < l.length := by
      have h1 := Int.emod_nonneg (two x ((i + 1 : Nat) : Int)) (b := ((i + 2 : Nat) : Int)) (by omega)
      have h2 := Int.emod_lt_of_pos (two x ((i + 1 : Nat) : Int)) (b := ((i + 2 : Nat) : Int)) (by omega)
      omega
    exact (mixRow_perm x i _ (by rw [swp_length]; omega)).trans (swp_perm l _ _ h hj)
/-- The ticks of a row of draws, and who was pinged. -/
def stepT (st : Pr × List Int) (x : Int) : Pr × List Int := ((tickF st.1 x []).2, st.2 ++ (tickF st.1 x []).1.pings)
def runT (s k : Nat) (ds : List Int) : Pr × List Int := ds.foldl stepT (newPr s k k, [])
structure TInv (s k : Nat) (p : Pr) (ys : List Int) : Prop where
  ok : Okay p
  n : p.n = k
  row : p.row.Perm (oth s k)
  cur : ∃ q : Nat, (ys.length : Int) = q * (k - 1 : Nat) + p.place ∧ ys.drop (q * (k - 1)) = p.row.take p.place.toNat ∧ ∀ i < q, ((ys.drop (i * (k - 1))).take (k - 1)).Perm (oth s k)
theorem TInv.start {s k : Nat} (h1 : 2 ≤ k) (h2 : k ≤ 64) (hs : s < k) : TInv s k (newPr s k k) [] :=
  ⟨new_okay (by omega) h2 hs, rfl, List.Perm.refl _, 0, by show ((0 : Nat) : Int) = _; simp [newPr], by simp [newPr], fun i hi => absurd hi (Nat.not_lt_zero _)⟩
theorem TInv.len {s k : Nat} {p : Pr} {ys : List Int} (h : TInv s k p ys) (hs : s < k) : p.row.length = k - 1 := by
  have := h.row.length_eq
  have := oth_length hs
  omega
theorem TInv.step {s k : Nat} {p : Pr} {ys : List Int} (h : TInv s k p ys) (h1 : 2 ≤ k) (hs : s < k) (hl : p.waits.length + 1 ≤ 1000000) (x : Int) : ∃ t, (tickF p x []).1.pings = [t] ∧ TInv s k (tickF p x []).2 (ys ++ [t]) := by
  have hok := (tick_okay h.ok hl x []).1
  have hn : p.n ≠ 1 := by rw [h.n]; omega
  have hlen := h.len hs
  have hp := tick_pings x [] hn
  rw [pass_pings, List.nil_append] at hp
  refine ⟨_, hp, ?_⟩
  obtain ⟨q, hq1, hq2, hq3⟩ := h.cur
  have hp0 := h.ok.pl0
  have hp1 := h.ok.pl1
  obtain ⟨P, hP⟩ : ∃ P, turned { p with waits := (pass p x []).2 } x = P := ⟨_, rfl⟩
  have e2 : (tickF p x []).2 = (pinged (pass p x []).1 P).2 := by unfold tickF; simp only; rw [if_neg hn, hP]
  rw [hP]
  have eP : (tickF p x []).2.row = P.row ∧ (tickF p x []).2.place = P.place + 1 ∧ (tickF p x []).2.n = P.n := by rw [e2]; exact ⟨rfl, rfl, rfl⟩
  have hPn : P.n = k := by rw [← hP, (turned_waits _ x).2.2]; exact h.n
  generalize (tickF p x []).2 = p' at *
  clear e2 hp
  by_cases hpl : p.place = (p.row.length : Int)
  · have hPr : P.row = mixRow x (p.row.length - 1) p.row := by rw [← hP]; unfold turned; rw [if_pos hpl]
    have hPp : P.place = 0 := by rw [← hP]; unfold turned; rw [if_pos hpl]
    have hperm : P.row.Perm (oth s k) := by rw [hPr]; exact (mixRow_perm x _ _ (by omega)).trans h.row
    have hPl : P.row.length = k - 1 := by rw [hPr, mixRow_length]; exact hlen
    have hyl : ys.length = (q + 1) * (k - 1) := by rw [hpl, hlen] at hq1; rw [Nat.succ_mul]; exact_mod_cast hq1
    refine ⟨hok, by rw [eP.2.2]; exact hPn, by rw [eP.1]; exact hperm, q + 1, ?_, ?_, ?_⟩
    · rw [eP.2.1, hPp, List.length_append, hyl]; simp
    · rw [eP.2.1, hPp, eP.1, List.drop_append_of_le_length (by omega), List.drop_eq_nil_of_le (by omega)]
      have hp : 0 < P.row.length := by omega
      show [P.row.getD (0 : Int).toNat 0] = P.row.take 1
      cases hh : P.row with
      | nil => rw [hh] at hp; simp at hp
      | cons a l => simp
    · intro i hi
      rw [List.drop_append_of_le_length (by rw [hyl]; exact Nat.mul_le_mul_right _ (by omega))]
      by_cases e : i = q
      · subst e
        rw [hq2, hpl, Int.toNat_natCast, List.take_length, List.take_append_of_le_length (by omega), ← hlen, List.take_length]
        exact h.row
      · have := hq3 i (by omega)
        have hm := Nat.mul_le_mul_right (k - 1) (show i + 1 ≤ q by omega)
        rw [Nat.succ_mul] at hm
        rw [List.take_append_of_le_length (by rw [List.length_drop, hyl, Nat.succ_mul]; omega)]
        exact this
  · have hPe : P = { p with waits := (pass p x []).2 } := by rw [← hP]; unfold turned; rw [if_neg hpl]
    have hPr : P.row = p.row := by rw [hPe]
    have hPp : P.place = p.place := by rw [hPe]
    obtain ⟨pl, hpl'⟩ : ∃ pl : Nat, p.place = pl := ⟨p.place.toNat, by omega⟩
    rw [hpl'] at hq1 hq2 hpl hp1
    have hyl : ys.length = q * (k - 1) + pl := by exact_mod_cast hq1
    have hpll : pl < p.row.length := by omega
    refine ⟨hok, by rw [eP.2.2]; exact hPn, by rw [eP.1, hPr]; exact h.row, q, ?_, ?_, ?_⟩
    · rw [eP.2.1, hPp, hpl', List.length_append, hyl]; simp; omega
    · rw [eP.2.1, hPp, hpl', eP.1, hPr, List.drop_append_of_le_length (by omega), hq2, Int.toNat_natCast, show ((pl : Int) + 1).toNat = pl + 1 by omega, List.take_succ_eq_append_getElem hpll]
      simp [List.getD, List.getElem?_eq_getElem hpll]
    · intro i hi
      have hm := Nat.mul_le_mul_right (k - 1) (show i + 1 ≤ q by omega)
      rw [Nat.succ_mul] at hm
      rw [List.drop_append_of_le_length (by omega), List.take_append_of_le_length (by rw [List.length_drop]; omega)]
      exact hq3 i hi
/-- A turn's pings are all others. -/
theorem TInv.turn {s k : Nat} {p : Pr} {ys : List Int} (h : TInv s k p ys) (h1 : 2 ≤ k) (hs : s < k) (i : Nat) (hi : i * (k - 1) + (k - 1) ≤ ys.length) : ((ys.drop (i * (k - 1))).take (k - 1)).Perm (oth s k) := by
  obtain ⟨q, hq1, hq2, hq3⟩ := h.cur
  have hlen := h.len hs
  have hp0 := h.ok.pl0
  have hp1 := h.ok.pl1
  obtain ⟨pl, hpl'⟩ : ∃ pl : Nat, p.place = pl := ⟨p.place.toNat, by omega⟩
  rw [hpl'] at hq1 hq2 hp1
  have hyl : ys.length = q * (k - 1) + pl := by exact_mod_cast hq1
  have hpl : pl ≤ k - 1 := by omega
  by_cases e : i < q
  · exact hq3 i e
  · have hiq : i = q ∧ pl = k - 1 := by
      have hm := Nat.mul_le_mul_right (k - 1) (show q ≤ i by omega)
      have hpl2 : pl = k - 1 := by omega
      refine ⟨?_, hpl2⟩
      by_cases e2 : i = q
      · exact e2
      · have hm2 := Nat.mul_le_mul_right (k - 1) (show q + 1 ≤ i by omega)
        rw [Nat.succ_mul] at hm2
        omega
    obtain ⟨rfl, hpl2⟩ := hiq
    rw [hq2, Int.toNat_natCast, hpl2, List.take_take, Nat.min_self, ← hlen, List.take_length]
    exact h.row
theorem TInv.mem {s k : Nat} {p : Pr} {ys : List Int} (h : TInv s k p ys) (h1 : 2 ≤ k) (hs : s < k) : ∀ t ∈ ys, t ∈ oth s k := by
  intro t ht
  obtain ⟨q, hq1, hq2, hq3⟩ := h.cur
  have hp0 := h.ok.pl0
  obtain ⟨j, hj, rfl⟩ := List.mem_iff_getElem.1 ht
  by_cases e : j < q * (k - 1)
  · have hlt : j / (k - 1) < q := by rw [Nat.div_lt_iff_lt_mul (by omega)]; exact e
    have hr := Nat.mod_lt j (show 0 < k - 1 by omega)
    have hd : (j / (k - 1)) * (k - 1) + j % (k - 1) = j := by rw [Nat.mul_comm]; exact Nat.div_add_mod j (k - 1)
    have := (hq3 _ hlt).mem_iff (a := ys[j])
    rw [← this]
    refine List.mem_iff_getElem?.2 ⟨j % (k - 1), ?_⟩
    rw [List.getElem?_take, if_pos hr, List.getElem?_drop, hd, List.getElem?_eq_getElem hj]
  · have : ys[j] ∈ ys.drop (q * (k - 1)) := by
      refine List.mem_iff_getElem?.2 ⟨j - q * (k - 1), ?_⟩
      rw [List.getElem?_drop, show q * (k - 1) + (j - q * (k - 1)) = j by omega, List.getElem?_eq_getElem hj]
    rw [hq2] at this
    exact (h.row.mem_iff).1 (List.mem_of_mem_take this)
/-- A list's set, as the law makes it. -/
def seenF (l : List Int) : List (Int × Bool) := l.foldl (fun M t => mput M t true) []
theorem seenF_snoc (l : List Int) (t : Int) : seenF (l ++ [t]) = mput (seenF l) t true := by unfold seenF; rw [List.foldl_append]; rfl
theorem seenF_keys (l : List Int) : ((seenF l).map (·.1)).Nodup ∧ ∀ x, x ∈ (seenF l).map (·.1) ↔ x ∈ l := by
  suffices h : ∀ (l : List Int) (M : List (Int × Bool)), (M.map (·.1)).Nodup → ((l.foldl (fun M t => mput M t true) M).map (·.1)).Nodup ∧ ∀ x, x ∈ (l.foldl (fun M t => mput M t true) M).map (·.1) ↔ x ∈ M.map (·.1) ∨ x ∈ l by
    have := h l [] (by simp)
    unfold seenF
    simpa using this
  intro l
  induction l with
  | nil => intro M hM; simpa using hM
  | cons t l ih =>
    intro M hM
    rw [List.foldl_cons]
    obtain ⟨h1, h2⟩ := ih (mput M t true) (mput_nodup hM)
    refine ⟨h1, fun x => (h2 x).trans ?_⟩
    rw [mput_keys]
    split
    · rename_i ht
      rw [List.mem_cons]
      constructor
      · rintro (h | h)
        · exact .inl h
        · exact .inr (.inr h)
      · rintro (h | h | h)
        · exact .inl h
        · exact .inl (h ▸ ht)
        · exact .inr h
    · rw [List.mem_append, List.mem_singleton, List.mem_cons, or_assoc]
theorem oth_nodup (s k : Nat) : (oth s k).Nodup := by
  unfold oth
  refine List.Pairwise.map _ (fun a b (h : a ≠ b) => ?_) ((List.nodup_range).filter _)
  intro e; exact h (by exact_mod_cast e)
theorem seen_len {s k : Nat} (hs : s < k) {l : List Int} (h : ∀ x, x ∈ l ↔ x ∈ oth s k) : (seenF l).length = k - 1 := by
  obtain ⟨h1, h2⟩ := seenF_keys l
  have hp : ((seenF l).map (·.1)).Perm (oth s k) := (List.perm_ext_iff_of_nodup h1 (oth_nodup s k)).2 fun x => (h2 x).trans (h x)
  have := hp.length_eq
  rw [List.length_map] at this
  have := oth_length hs
  omega
theorem seen_not {s k : Nat} {l : List Int} (h : ∀ x, x ∈ l → x ∈ oth s k) : mget (seenF l) (s : Int) = none := by
  obtain ⟨h1, h2⟩ := seenF_keys l
  unfold mget
  rw [Option.map_eq_none_iff, mpos_none]
  intro p hp e
  have h3 := (h2 p.1).1 (List.mem_map.2 ⟨p, hp, rfl⟩)
  have := (oth_bound (h _ h3)).2.2
  exact this e
theorem TInv.first {s k : Nat} {p : Pr} {ys : List Int} (h : TInv s k p ys) (h1 : 2 ≤ k) (hs : s < k) (i : Nat) (hi : i * (k - 1) + (k - 1) ≤ ys.length) : (seenF ((ys.drop (i * (k - 1))).take (k - 1))).length = k - 1 ∧ mget (seenF ((ys.drop (i * (k - 1))).take (k - 1))) (s : Int) = none := by
  have hp := h.turn h1 hs i hi
  exact ⟨seen_len hs fun x => hp.mem_iff, seen_not fun x hx => hp.mem_iff.1 hx⟩
theorem TInv.window {s k : Nat} {p : Pr} {ys : List Int} (h : TInv s k p ys) (h1 : 2 ≤ k) (hs : s < k) (from_ : Nat) (hf : from_ + (2 * k - 3) ≤ ys.length) : (seenF ((ys.drop from_).take (2 * k - 3))).length = k - 1 := by
  refine seen_len hs fun x => ⟨fun hx => h.mem h1 hs x (List.mem_of_mem_drop (List.mem_of_mem_take hx)), fun hx => ?_⟩
  obtain ⟨r, hr⟩ : ∃ r, k - 1 = r := ⟨_, rfl⟩
  have hrp : 0 < r := by omega
  -- the first turn that begins behind
  obtain ⟨i, hi1, hi2⟩ : ∃ i, from_ ≤ i * r ∧ i * r < from_ + r := by
    refine ⟨(from_ + r - 1) / r, ?_, ?_⟩
    · have := Nat.div_add_mod (from_ + r - 1) r
      have h2 := Nat.mod_lt (from_ + r - 1) hrp
      rw [Nat.mul_comm] at this
      omega
    · have := Nat.div_mul_le_self (from_ + r - 1) r
      omega
  have hp := h.turn h1 hs i (by rw [hr]; omega)
  rw [hr] at hp
  have hx2 := hp.mem_iff.2 hx
  obtain ⟨j, hj⟩ := List.mem_iff_getElem?.1 hx2
  rw [List.getElem?_take] at hj
  split at hj
  · rename_i hjr
    rw [List.getElem?_drop] at hj
    refine List.mem_iff_getElem?.2 ⟨i * r + j - from_, ?_⟩
    rw [List.getElem?_take, if_pos (by omega), List.getElem?_drop, show from_ + (i * r + j - from_) = i * r + j by omega]
    exact hj
  · simp at hj
end Go.Proofs.Ytjhmkmcongjngaa
