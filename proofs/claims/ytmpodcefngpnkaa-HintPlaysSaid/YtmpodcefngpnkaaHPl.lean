/- Hints: bits, and what an acknowledgement changes. -/
import Derived.Test.YtmpodcefngpnkaaHJ
import Derived.Test.YtmpodcefngpnkaaHM
set_option linter.unusedVariables false
set_option linter.unusedSimpArgs false
namespace Go.Proofs.Ytmpodcefngpnkaa
open Go.RowKit Go.Tat Go.Proofs.YtmpodcefngpnkaaW.PrintWords PHintPlays
theorem bitM_test (a m : Int) (h : 0 ≤ a ∧ a < 18446744073709551616) (hm : 0 ≤ m) : bitM a m = a.toNat.testBit m.toNat := by
  unfold bitM
  rw [bitM_mod a m h, Nat.testBit_eq_decide_div_mod_eq]
  obtain ⟨q, rfl⟩ := Int.eq_ofNat_of_zero_le h.1
  rw [Bool.eq_iff_iff]
  simp only [beq_iff_eq, decide_eq_true_eq]
  have e : ((q : Int) / 2 ^ m.toNat) % 2 = ((q / 2 ^ m.toNat % 2 : Nat) : Int) := by push_cast; rfl
  show ((q : Int) / 2 ^ m.toNat) % 2 = 1 ↔ (q : Int).toNat / 2 ^ m.toNat % 2 = 1
  rw [e, Int.toNat_natCast]
  omega
theorem bit_or (a n m : Int) (h : 0 ≤ a ∧ a < 18446744073709551616) (hn : 0 ≤ n ∧ n < 64) (hm : 0 ≤ m ∧ m < 64) : bitM (bits .or .u64 a (IntKind.u64.wrap (2 ^ n.toNat))) m = (bitM a m || decide (m = n)) := by
  have hw := wrap_range (2 ^ n.toNat)
  have hp : (2 : Int) ^ n.toNat < 18446744073709551616 := by
    have h1 : (2 : Nat) ^ n.toNat < 2 ^ 64 := Nat.pow_lt_pow_right (by decide) (by omega)
    have e : (2 : Int) ^ n.toNat = ((2 ^ n.toNat : Nat) : Int) := by push_cast; rfl
    rw [e]
    have e2 : (2 : Nat) ^ 64 = 18446744073709551616 := by decide
    omega
  have e3 : IntKind.u64.wrap (2 ^ n.toNat) = ((2 ^ n.toNat : Nat) : Int) := by
    have e : (2 : Int) ^ n.toNat = ((2 ^ n.toNat : Nat) : Int) := by push_cast; rfl
    have h0 : (0 : Int) ≤ 2 ^ n.toNat := by rw [e]; exact Int.natCast_nonneg _
    rw [IntKind.wrap_u64, Int.emod_eq_of_lt h0 hp, e]
  rw [bitM_test _ m (or_range _ _ h hw) hm.1, bitM_test a m h hm.1, _root_.Go.u64_or a _ h.1 h.2 hw.1 hw.2, e3, Int.toNat_natCast, Int.toNat_natCast, Nat.testBit_or, Nat.testBit_two_pow]
  congr 1
  rw [Bool.eq_iff_iff]
  simp only [decide_eq_true_eq]
  omega
theorem ackX_bit {x : Hn} (g : GoodM x) {n m : Int} (hn : 0 ≤ n ∧ n < 64) (hm : 0 ≤ m ∧ m < 64) : bitM (ackX x n).f1 m = (bitM x.f1 m || decide (m = n)) := bit_or x.f1 n m g.bits hn hm
theorem posH_of {l : List Hn} (hs : SortedH l) {i : Nat} {x : Hn} (hx : l[i]? = some x) : posH l x.f0.f0 = i := by
  have hi := (List.getElem?_eq_some_iff.1 hx).1
  refine posH_is (by omega) (fun j y hj hy => sorted_lt hs hy hx hj) fun j y hj hy => ?_
  rcases Nat.lt_or_ge i j with h | h
  · have h1 := sorted_lt hs hx hy h
    have := cS_neg x.f0.f0 y.f0.f0
    omega
  · obtain rfl : j = i := by omega
    rw [hx] at hy; cases hy
    have := cS_self x.f0.f0
    omega
theorem cN_self (x : Int) : cN x x = 0 := (cN_eq x x).2 rfl
theorem hlcF_self (s : Stp) : hlcF s s = 0 := (hlcF_eq s s).2 rfl
theorem ackB_at {l : List Hn} (hs : SortedH l) {i : Nat} {x : Hn} (hx : l[i]? = some x) (s : Stp) (n : Int) : ackB l x.f0.f0 s n = (!decide (0 < hlcF x.f0.f1 s) && !bitM x.f1 n) := by
  unfold ackB
  rw [posH_of hs hx, hx]
  simp [cS_self]
theorem ackL_at {l : List Hn} (hs : SortedH l) {i : Nat} {x : Hn} (hx : l[i]? = some x) (s : Stp) (n : Int) : ackL l x.f0.f0 s n = if ackB l x.f0.f0 s n then l.set i (ackX x n) else l := by
  unfold ackL
  rw [posH_of hs hx, hx]
theorem own_nodup (key : ByteArray) (up : List Int) : (own key up).Nodup := (srt_nodup key up).sublist (List.take_sublist _ _)
/-- What is behind acknowledgements: the same records, more bits. -/
structure Rl (l l' : List Hn) (D : ByteArray → Int → Prop) : Prop where
  len : l'.length = l.length
  at_ : ∀ (i : Nat) (x : Hn), l[i]? = some x → ∃ x', l'[i]? = some x' ∧ x'.f0 = x.f0 ∧ ∀ m : Int, 0 ≤ m → m < 64 → (bitM x'.f1 m = true ↔ bitM x.f1 m = true ∨ D x.f0.f0 m)
theorem Rl.refl (l : List Hn) : Rl l l (fun _ _ => False) := ⟨rfl, fun i x h => ⟨x, h, rfl, fun m _ _ => by simp⟩⟩
theorem key_inj {l : List Hn} (hs : SortedH l) {i j : Nat} {x y : Hn} (hx : l[i]? = some x) (hy : l[j]? = some y) (e : x.f0.f0 = y.f0.f0) : i = j := by
  rw [← posH_of hs hx, ← posH_of hs hy, e]
theorem Rl.step {l l' : List Hn} {D : ByteArray → Int → Prop} (R : Rl l l' D) {most : Int} (hI : HInv most l) (hI' : HInv most l') {i : Nat} {x : Hn} (hx : l[i]? = some x) {n : Int} (hn : 0 ≤ n ∧ n < 64) (hb : bitM x.f1 n = false) (hD : ¬ D x.f0.f0 n) :
    ackB l' x.f0.f0 x.f0.f1 n = true ∧ Rl l (ackL l' x.f0.f0 x.f0.f1 n) (fun k m => D k m ∨ (k = x.f0.f0 ∧ m = n)) := by
  obtain ⟨x', hx', e, hbits⟩ := R.at_ i x hx
  have h1 : ackB l' x.f0.f0 x.f0.f1 n = true := by
    rw [← e, ackB_at hI'.srt hx', hlcF_self]
    have h2 : ¬ bitM x'.f1 n = true := by
      rw [hbits n hn.1 hn.2, hb]
      simpa using hD
    simp [h2]
  refine ⟨h1, ?_⟩
  have h3 : ackL l' x.f0.f0 x.f0.f1 n = l'.set i (ackX x' n) := by
    have h4 := ackL_at hI'.srt hx' x.f0.f1 n
    rw [e] at h4
    rw [h4, if_pos h1]
  rw [h3]
  have hil := (List.getElem?_eq_some_iff.1 hx').1
  refine ⟨by rw [List.length_set]; exact R.len, fun j y hy => ?_⟩
  obtain ⟨y', hy', ey, hyb⟩ := R.at_ j y hy
  by_cases hji : i = j
  · subst hji
    rw [hx] at hy; cases hy
    rw [hx'] at hy'; cases hy'
    refine ⟨ackX x' n, by rw [List.getElem?_set_self hil], e, fun m h0 h6 => ?_⟩
    rw [ackX_bit (hI'.good _ (List.mem_of_getElem? hx')) hn ⟨h0, h6⟩, Bool.or_eq_true, hyb m h0 h6, decide_eq_true_eq]
    constructor
    · rintro ((h | h) | h)
      · exact .inl h
      · exact .inr (.inl h)
      · exact .inr (.inr ⟨rfl, h⟩)
    · rintro (h | h | h)
      · exact .inl (.inl h)
      · exact .inl (.inr h)
      · exact .inr h.2
  · refine ⟨y', by rw [List.getElem?_set_ne hji]; exact hy', ey, fun m h0 h6 => ?_⟩
    rw [hyb m h0 h6]
    constructor
    · rintro (h | h)
      · exact .inl h
      · exact .inr (.inl h)
    · rintro (h | h | h)
      · exact .inl h
      · exact .inr h
      · exact absurd (key_inj hI.srt hx hy h.1.symm) hji
/-- Those that are told. -/
theorem misL_mem {up : List Int} {l : List Hn} {s : Sd} : s ∈ misL up l ↔ ∃ x ∈ l, s.f1 = x.f0 ∧ s.f0 ∈ own x.f0.f0 up ∧ bitM x.f1 s.f0 = false := by
  unfold misL
  rw [List.mem_flatMap]
  constructor
  · rintro ⟨x, hx, h⟩
    unfold misP tell at h
    obtain ⟨n, hn, rfl⟩ := List.mem_map.1 h
    have := List.mem_filter.1 hn
    exact ⟨x, hx, rfl, this.1, by simpa using this.2⟩
  · rintro ⟨x, hx, h1, h2, h3⟩
    refine ⟨x, hx, ?_⟩
    unfold misP tell
    exact List.mem_map.2 ⟨s.f0, List.mem_filter.2 ⟨h2, by simpa using h3⟩, by rw [← h1]⟩
theorem misL_apart (up : List Int) {l : List Hn} (hs : SortedH l) : (misL up l).Pairwise fun s t => ¬ (s.f1.f0 = t.f1.f0 ∧ s.f0 = t.f0) := by
  unfold misL
  rw [List.pairwise_flatMap]
  refine ⟨fun x hx => ?_, hs.imp fun {x y} hxy s hs t ht he => ?_⟩
  · unfold misP tell
    rw [List.pairwise_map]
    refine List.Pairwise.imp (fun {a b} hab he => hab he.2) ((own_nodup x.f0.f0 up).sublist List.filter_sublist)
  · unfold misP tell at hs ht
    obtain ⟨n, hn, rfl⟩ := List.mem_map.1 hs
    obtain ⟨m, hm, rfl⟩ := List.mem_map.1 ht
    have e : x.f0.f0 = y.f0.f0 := he.1
    have := cS_self y.f0.f0
    rw [e] at hxy
    omega
def toldD (ss : List Sd) (k : ByteArray) (m : Int) : Prop := ∃ t ∈ ss, t.f1.f0 = k ∧ t.f0 = m
theorem Rl.congr {l l' : List Hn} {D D' : ByteArray → Int → Prop} (R : Rl l l' D) (h : ∀ k m, D k m ↔ D' k m) : Rl l l' D' := ⟨R.len, fun i x hx => by
  obtain ⟨x', h1, h2, h3⟩ := R.at_ i x hx
  exact ⟨x', h1, h2, fun m a b => by rw [h3 m a b, h]⟩⟩
theorem told_step {most : Int} {l l' : List Hn} {up : List Int} (hI : HInv most l) (hI' : HInv most l') (h0 : ∀ n ∈ up, 0 ≤ n ∧ n < 256) {j : Nat} {s : Sd} (hj : (misL up l)[j]? = some s) (R : Rl l l' (toldD ((misL up l).take j))) :
    s.f0 ∈ own s.f1.f0 up ∧ (0 ≤ s.f0 ∧ s.f0 < 64) ∧ s.f1.f0.size ≤ 250 ∧ ackB l' s.f1.f0 s.f1.f1 s.f0 = true ∧ Rl l (ackL l' s.f1.f0 s.f1.f1 s.f0) (toldD ((misL up l).take (j + 1))) := by
  obtain ⟨x, hx, e, ho, hb⟩ := misL_mem.1 (List.mem_of_getElem? hj)
  obtain ⟨i, hi⟩ := List.getElem?_of_mem hx
  have hom := own_mem ho
  have hn : 0 ≤ s.f0 ∧ s.f0 < 64 := ⟨(h0 _ hom.1).1, hom.2⟩
  have hD : ¬ toldD ((misL up l).take j) x.f0.f0 s.f0 := by
    rintro ⟨t, ht, h1, h2⟩
    obtain ⟨q, hq⟩ := List.getElem?_of_mem ht
    have hqj : q < j := by have := (List.getElem?_eq_some_iff.1 hq).1; rw [List.length_take] at this; omega
    rw [List.getElem?_take_of_lt hqj] at hq
    obtain ⟨l1, e1⟩ := List.getElem?_eq_some_iff.1 hq
    obtain ⟨l2, e2⟩ := List.getElem?_eq_some_iff.1 hj
    have h3 := List.pairwise_iff_getElem.1 (misL_apart up hI.srt) q j l1 l2 hqj
    rw [e1, e2] at h3
    exact h3 ⟨by rw [h1, e], h2⟩
  obtain ⟨h4, h5⟩ := R.step hI hI' hi hn hb hD
  rw [e]
  refine ⟨ho, hn, mayB_key (hI.good x hx).may, h4, h5.congr fun k m => ?_⟩
  unfold toldD
  rw [List.take_add_one, hj]
  constructor
  · rintro (⟨t, ht, h⟩ | ⟨rfl, rfl⟩)
    · exact ⟨t, List.mem_append_left _ ht, h⟩
    · exact ⟨s, List.mem_append_right _ (by simp), by rw [e], rfl⟩
  · rintro ⟨t, ht, h⟩
    rcases List.mem_append.1 ht with ht | ht
    · exact .inl ⟨t, ht, h⟩
    · obtain rfl : t = s := by simpa using ht
      exact .inr ⟨by rw [← h.1, e], h.2.symm⟩
theorem own_nil {key key' : ByteArray} {up : List Int} (h : own key up = []) : own key' up = [] := by
  have h1 : srt key up = [] := by
    unfold own at h
    cases hh : srt key up with
    | nil => rfl
    | cons a b => rw [hh] at h; cases h
  have h2 : srt key' up = [] := by
    apply List.eq_nil_iff_forall_not_mem.2
    intro n hn
    have := (srt_mem key up n).2 ((srt_mem key' up n).1 hn)
    rw [h1] at this
    cases this
  unfold own
  rw [h2]
  rfl
theorem told_end {most : Int} {l l' : List Hn} {up : List Int} (hI' : HInv most l') (h0 : ∀ n ∈ up, 0 ≤ n ∧ n < 256) (R : Rl l l' (toldD (misL up l))) : misL up l' = [] ∧ (own ⟨#[97]⟩ up ≠ [] → setL up l' = []) ∧ (own ⟨#[97]⟩ up = [] → setL up l' = l') := by
  have hall : ∀ x' ∈ l', ∀ n ∈ own x'.f0.f0 up, bitM x'.f1 n = true := by
    intro x' hx' n hn
    obtain ⟨i, hi⟩ := List.getElem?_of_mem hx'
    obtain ⟨x, hx⟩ : ∃ x, l[i]? = some x := ⟨_, List.getElem?_eq_getElem (by have := (List.getElem?_eq_some_iff.1 hi).1; have := R.len; omega)⟩
    obtain ⟨y, hy, e, hb⟩ := R.at_ i x hx
    rw [hi] at hy; cases hy
    have hom := own_mem hn
    rw [hb n (h0 _ hom.1).1 hom.2]
    cases hc : bitM x.f1 n with
    | true => exact .inl rfl
    | false => exact .inr ⟨⟨n, x.f0⟩, misL_mem.2 ⟨x, List.mem_of_getElem? hx, rfl, by rw [← e]; exact hn, hc⟩, rfl, rfl⟩
  refine ⟨?_, fun hne => ?_, fun he => ?_⟩
  · apply List.eq_nil_iff_forall_not_mem.2
    intro s hs
    obtain ⟨x, hx, e, ho, hb⟩ := misL_mem.1 hs
    rw [hall x hx _ ho] at hb
    cases hb
  · apply List.eq_nil_iff_forall_not_mem.2
    intro x hx
    unfold setL at hx
    have h1 := List.mem_filter.1 hx
    have h2 : setP up x = true := by
      unfold setP
      have h3 : own x.f0.f0 up ≠ [] := fun e => hne (own_nil e)
      have h4 : 0 < (own x.f0.f0 up).length := by
        cases hh : own x.f0.f0 up with
        | nil => exact absurd hh h3
        | cons a b => simp
      have h5 : ((own x.f0.f0 up).any fun n => !bitM x.f1 n) = false := by
        rw [List.any_eq_false]
        intro n hn
        simp [hall x h1.1 n hn]
      rw [h5]
      simpa using h4
    rw [h2] at h1
    simp at h1
  · unfold setL
    rw [List.filter_eq_self]
    intro x hx
    unfold setP
    rw [own_nil he]
    rfl
end Go.Proofs.Ytmpodcefngpnkaa
