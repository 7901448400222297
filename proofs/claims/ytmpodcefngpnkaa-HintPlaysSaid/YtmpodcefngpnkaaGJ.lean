import Derived.Test.YtmpodcefngpnkaaGE
namespace Go.Proofs.Ytmpodcefngpnkaa
open Go.RowKit Go.Tat Go.Proofs.YtmpodcefngpnkaaW.PrintWords PHintPlays
theorem rd_get (l : List Int) (i : Nat) (h : i < l.length) : rd l (i : Int) = l[i] := by
  unfold rd
  simp [h]
theorem own_len (key : ByteArray) (l : List Int) : (own key l).length ≤ 2 := by
  unfold own
  rw [List.length_take]
  omega
theorem own_mem {key : ByteArray} {l : List Int} {x : Int} (h : x ∈ own key l) : x ∈ l ∧ x < 64 := (srt_mem key l x).1 (List.mem_of_mem_take h)
/-! ### The document's owners -/
theorem in_l (l : List Int) (x : Int) (hl : l.length < 4611686018427387904) : ∀ d i k, i + d = l.length → d < k → tattlerref16_in.l0 k l x (l.length : Int) (i : Int) = some (decide (x ∈ l.drop i))
  | 0, i, k + 1, h, _ => by
    have h1 : ¬ (i : Int) < (l.length : Int) := by omega
    rw [tattlerref16_in.l0, if_neg h1, List.drop_eq_nil_of_le (by omega)]
    simp
  | d + 1, i, k + 1, h, hk => by
    have h1 : (i : Int) < (l.length : Int) := by omega
    have h2 : (0 : Int) ≤ (i : Int) := by omega
    have h4 : i < l.length := by omega
    have e2 : x ∈ l.drop i ↔ (x = l[i] ∨ x ∈ l.drop (i + 1)) := by rw [List.drop_eq_getElem_cons h4, List.mem_cons]
    rw [tattlerref16_in.l0, if_pos h1, if_pos h2, if_pos h1, rd_get l i h4, wrap64_succ h4 hl, (decide_eq_decide.2 e2 : decide (x ∈ l.drop i) = decide (x = l[i] ∨ x ∈ l.drop (i + 1)))]
    by_cases e : l[i] = x
    · rw [if_pos e]
      simp [e]
    · rw [if_neg e, in_l l x hl d (i + 1) k (by omega) (by omega)]
      have : ¬ x = l[i] := fun h => e h.symm
      simp only [this, false_or]
theorem in_is (l : List Int) (x : Int) (hl : l.length < 4611686018427387904) (k : Nat) (hk : l.length < k) : tattlerref16_in.f k l x = some (decide (x ∈ l)) := in_l l x hl l.length 0 k (by omega) hk
/-- The best of those below i. -/
def Best (key : ByteArray) (l : List Int) (but : Int) (i : Int) (r : Int) : Prop :=
  (r = 255 ∧ ∀ c ∈ l, 0 ≤ c → c < i → c = but) ∨ (r ∈ l ∧ 0 ≤ r ∧ r < i ∧ r ≠ but ∧ ∀ c ∈ l, 0 ≤ c → c < i → c ≠ but → c = r ∨ bef key r c)
theorem best_l (key : ByteArray) (hs : key.size ≤ 1000000) (l : List Int) (hl : l.length ≤ 1000000) (but : Int) (B : Nat) (hB1 : key.size + 40 < B) (hB2 : l.length < B) (d : Nat) : ∀ (i : Nat) (out : Int) (k : Nat), i + d = 64 → 2 * d + B < k → Best key l but i out → ∃ r, tattlerref16_best.l0 k key l but out (i : Int) = some r ∧ Best key l but 64 r := by
  induction d with
  | zero =>
    intro i out k h hk hb
    obtain ⟨k, rfl⟩ : ∃ k', k = k' + 1 := ⟨k - 1, by omega⟩
    have h1 : ¬ (i : Int) < 64 := by omega
    have e : (i : Int) = 64 := by omega
    rw [tattlerref16_best.l0, if_neg h1]
    exact ⟨out, rfl, e ▸ hb⟩
  | succ d ih =>
    intro i out k h hk hb
    obtain ⟨k, rfl⟩ : ∃ k', k = k' + 2 := ⟨k - 2, by omega⟩
    have h1 : (i : Int) < 64 := by omega
    have h2 : (i : Int) % 256 = (i : Int) := by omega
    have hw : wrap64 ((i : Int) + 1) = ((i + 1 : Nat) : Int) := wrap64_succ (m := 64) (by omega) (by omega)
    have hi1 : ((i + 1 : Nat) : Int) = (i : Int) + 1 := by omega
    rw [tattlerref16_best.l0, if_pos h1, h2]
    have skip : (∀ c ∈ l, c = (i : Int) → c = but) → Best key l but ((i + 1 : Nat) : Int) out := fun hsk => by
      rcases hb with ⟨rfl, hb⟩ | ⟨b1, b2, b3, b4, b5⟩
      · refine .inl ⟨rfl, fun c hc h0 hlt => ?_⟩
        rcases (by omega : c < (i : Int) ∨ c = (i : Int)) with h | h
        · exact hb c hc h0 h
        · exact hsk c hc h
      · refine .inr ⟨b1, b2, by omega, b4, fun c hc h0 hlt hne => ?_⟩
        rcases (by omega : c < (i : Int) ∨ c = (i : Int)) with h | h
        · exact b5 c hc h0 h hne
        · exact absurd (hsk c hc h) hne
    by_cases hbut : (i : Int) = but
    · rw [if_pos hbut, tattlerref16_best.j1, if_pos rfl, hw]
      exact ih (i + 1) out k (by omega) (by omega) (skip fun c _ h => h.trans hbut)
    · rw [if_neg hbut, in_is l _ (by omega) (k + 1) (by omega), Option.bind_some, tattlerref16_best.j1]
      by_cases hin : (i : Int) ∈ l
      · rw [decide_eq_true hin, if_neg (by decide)]
        by_cases h255 : out = 255
        · rw [if_pos h255, hw]
          refine ih (i + 1) i k (by omega) (by omega) (.inr ⟨hin, by omega, by omega, hbut, fun c hc h0 hlt hne => ?_⟩)
          rcases hb with ⟨_, hb⟩ | ⟨b1, b2, b3, _⟩
          · rcases (by omega : c < (i : Int) ∨ c = (i : Int)) with h | h
            · exact absurd (hb c hc h0 h) hne
            · exact .inl h
          · omega
        · rw [if_neg h255, rweight_is key _ (by omega) k (by omega), Option.bind_some, rweight_is key _ (by omega) k (by omega), Option.bind_some, hw]
          rcases hb with ⟨hb, _⟩ | ⟨b1, b2, b3, b4, b5⟩
          · exact absurd hb h255
          by_cases hgt : wt key (i : Int) > wt key out
          · rw [if_pos hgt]
            refine ih (i + 1) i k (by omega) (by omega) (.inr ⟨hin, by omega, by omega, hbut, fun c hc h0 hlt hne => ?_⟩)
            rcases (by omega : c < (i : Int) ∨ c = (i : Int)) with h | h
            · refine .inr ?_
              have := b5 c hc h0 h hne
              unfold bef at *
              rcases this with rfl | h
              · exact .inl hgt
              · omega
            · exact .inl h
          · rw [if_neg hgt]
            refine ih (i + 1) out k (by omega) (by omega) (.inr ⟨b1, b2, by omega, b4, fun c hc h0 hlt hne => ?_⟩)
            rcases (by omega : c < (i : Int) ∨ c = (i : Int)) with h | h
            · exact b5 c hc h0 h hne
            · refine .inr ?_
              unfold bef
              rw [h]
              omega
      · rw [decide_eq_false hin, if_pos (by decide), hw]
        exact ih (i + 1) out k (by omega) (by omega) (skip fun c hc h => absurd (h ▸ hc) hin)
theorem best_is (key : ByteArray) (hs : key.size ≤ 1000000) (l : List Int) (hl : l.length ≤ 1000000) (but : Int) (k : Nat) (hk : 2000300 < k) : ∃ r, tattlerref16_best.f k key l but = some r ∧ Best key l but 64 r :=
  best_l key hs l hl but (key.size + l.length + 41) (by omega) (by omega) 64 0 255 k (by omega) (by omega) (.inl ⟨rfl, fun c _ h0 h => by omega⟩)
theorem rowners_is (key : ByteArray) (hs : key.size ≤ 1000000) (l : List Int) (hl : l.length ≤ 1000000) (h0 : ∀ x ∈ l, 0 ≤ x ∧ x < 256) (k : Nat) (hk : 2000300 < k) : tattlerref16_Owners.f k key l = some (own key l) := by
  unfold tattlerref16_Owners.f own
  rw [Option.bind_some]
  obtain ⟨r, hr, B⟩ := best_is key hs l hl 255 k hk
  rw [hr, Option.bind_some]
  have hm := srt_mem key l
  have hso := srt_sorted key l
  generalize srt key l = s at *
  match s, hm, hso with
  | [], hm, _ =>
    have : r = 255 := by
      rcases B with ⟨h, _⟩ | ⟨b1, b2, b3, _⟩
      · exact h
      · exact absurd ((hm r).2 ⟨b1, b3⟩) (by simp)
    rw [if_pos this]
    rfl
  | a :: t, hm, hso =>
    rw [List.pairwise_cons] at hso
    have ha := (hm a).1 (by simp)
    have ha0 := h0 a ha.1
    have hra : r = a := by
      rcases B with ⟨_, hb⟩ | ⟨b1, b2, b3, b4, b5⟩
      · have := hb a ha.1 ha0.1 ha.2
        omega
      · rcases List.mem_cons.1 ((hm r).2 ⟨b1, b3⟩) with h | h
        · exact h
        · have h1 := hso.1 r h
          rcases b5 a ha.1 ha0.1 ha.2 (by omega) with h2 | h2
          · exact h2.symm
          · exact (bef_asymm h1 h2).elim
    subst hra
    obtain ⟨r2, hr2, B2⟩ := best_is key hs l hl r k hk
    rw [if_neg (by omega), if_pos (by simp), Option.bind_some, hr2, Option.bind_some]
    match t, hm, hso with
    | [], hm, _ =>
      have : r2 = 255 := by
        rcases B2 with ⟨h, _⟩ | ⟨b1, b2, b3, b4, _⟩
        · exact h
        · have := (hm r2).2 ⟨b1, b3⟩
          rw [List.mem_singleton] at this
          exact absurd this b4
      rw [if_pos this]
      rfl
    | b :: t, hm, hso =>
      have hso2 := hso.2
      rw [List.pairwise_cons] at hso2
      have hb := (hm b).1 (by simp)
      have hb0 := h0 b hb.1
      have hab := hso.1 b (by simp)
      have hne : b ≠ r := fun e => by rw [e] at hab; exact bef_asymm hab hab
      have hrb : r2 = b := by
        rcases B2 with ⟨_, hb'⟩ | ⟨b1, b2, b3, b4, b5⟩
        · exact absurd (hb' b hb.1 hb0.1 hb.2) hne
        · rcases List.mem_cons.1 ((hm r2).2 ⟨b1, b3⟩) with h | h
          · exact absurd h b4
          rcases List.mem_cons.1 h with h | h
          · exact h
          · have h1 := hso2.1 r2 h
            rcases b5 b hb.1 hb0.1 hb.2 hne with h2 | h2
            · exact h2.symm
            · exact (bef_asymm h1 h2).elim
      rw [if_neg (by omega), if_pos (by simp), hrb]
      rfl
end Go.Proofs.Ytmpodcefngpnkaa
