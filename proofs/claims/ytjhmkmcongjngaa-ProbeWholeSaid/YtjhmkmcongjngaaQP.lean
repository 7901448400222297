import Derived.Test.YtjhmkmcongjngaaQO
set_option linter.unusedVariables false
set_option linter.unusedSimpArgs false
namespace Go.Proofs.Ytjhmkmcongjngaa
open Go.RowKit Go.Tat Go.Proofs.YtjhmkmcongjngaaW.PrintWords PProbePlays
def fp0 : Pr := newPr 0 3 3
def fp1 : Pr := ⟨0, 3, [1, 2], 1, [⟨1, 0⟩]⟩
def fp2 : Pr := ⟨0, 3, [1, 2], 2, [⟨1, 1⟩, ⟨2, 0⟩]⟩
theorem f1 : tickF fp0 0 [1, 2] = (⟨[1], [], []⟩, fp1) := by rfl
theorem f2 : tickF fp1 0 [1, 2] = (⟨[2], [⟨2, 1⟩], []⟩, fp2) := by rfl
theorem f3 : (tickF fp2 0 []).1.failed = [1] ∧ ∃ t, (tickF fp2 0 []).1.pings = [t] := by
  refine ⟨by rfl, ?_⟩
  rw [tick_pings _ _ (by decide), pass_pings]
  exact ⟨_, rfl⟩
theorem ok0 : Okay fp0 := new_okay (by decide) (by decide) (by decide)
theorem ok1 : Okay fp1 := by have := (tick_okay ok0 (by decide) 0 [1, 2]).1; rw [f1] at this; exact this
theorem ok2 : Okay fp2 := by have := (tick_okay ok1 (by decide) 0 [1, 2]).1; rw [f2] at this; exact this
theorem same_l0 (l0 l1 : List Int) (hl : l0.length = l1.length) (hm : l0.length ≤ 9223372036854775806) : ∀ (d k i : Nat), i ≤ l0.length → l0.length - i = d → d < k → tattlerref16_Same.l0 k l0 l1 (l0.length : Int) (i : Int) = some (decide (l0.drop i = l1.drop i)) := by
  intro d
  induction d with
  | zero =>
    intro k i hi hd hk
    obtain ⟨k, rfl⟩ : ∃ m, k = m + 1 := ⟨k - 1, by omega⟩
    simp only [tattlerref16_Same.l0]
    rw [if_neg (by omega), List.drop_eq_nil_of_le (by omega), List.drop_eq_nil_of_le (by omega)]
    simp
  | succ d ih =>
    intro k i hi hd hk
    obtain ⟨k, rfl⟩ : ∃ m, k = m + 1 := ⟨k - 1, by omega⟩
    simp only [tattlerref16_Same.l0]
    have hi0 : i < l0.length := by omega
    have hi1 : i < l1.length := by omega
    have r0 : rd l0 (i : Int) = l0[i] := by unfold rd; simp [List.getD, List.getElem?_eq_getElem hi0]
    have r1 : rd l1 (i : Int) = l1[i] := by unfold rd; simp [List.getD, List.getElem?_eq_getElem hi1]
    have c0 : (i : Int) < (l0.length : Int) := by omega
    have c1 : (0 : Int) ≤ (i : Int) := by omega
    have c2 : (i : Int) < (l1.length : Int) := by omega
    rw [if_pos c0, if_pos c1, if_pos c0, if_pos c2, r0, r1]
    have e0 : l0.drop i = l0[i] :: l0.drop (i + 1) := List.drop_eq_getElem_cons hi0
    have e1 : l1.drop i = l1[i] :: l1.drop (i + 1) := List.drop_eq_getElem_cons hi1
    rw [e0, e1]
    have ih' := ih k (i + 1) (by omega) (by omega) (by omega)
    by_cases h : l0[i] = l1[i]
    · have hw : wrap64 ((i : Int) + 1) = ((i + 1 : Nat) : Int) := by unfold wrap64; omega
      rw [if_pos h, hw, ih', h]
      simp only [List.cons.injEq, true_and]
    · rw [if_neg h]
      simp only [List.cons.injEq, h, false_and, decide_false]
theorem same_f (l0 l1 : List Int) (hm : l0.length ≤ 9223372036854775806) : tattlerref16_Same.f (l0.length + 1) l0 l1 = some (decide (l0 = l1)) := by
  unfold tattlerref16_Same.f
  by_cases h : l0.length = l1.length
  · rw [if_pos (by omega)]
    have := same_l0 l0 l1 h hm l0.length (l0.length + 1) 0 (by omega) (by omega) (by omega)
    simpa using this
  · rw [if_neg (by omega)]
    have : l0 ≠ l1 := fun e => h (by rw [e])
    simp [this]
theorem same_c (w : World) (v u : Value) (l0 l1 : List Int) (h0 : (slc (Kd.int .u8) 5 v l0).holds w) (h1 : (slc (Kd.int .u8) 5 u l1).holds w) (hm : l0.length ≤ 9223372036854775806) : Calls Try.prog 16 #[v, u] w fun e w' => e = .returned (.bool (decide (l0 = l1))) ∧ Below w.heap.size w w' := by
  obtain ⟨A0, c0, rfl, hc0, C0⟩ := Kd.R_reads h0.1
  obtain ⟨A1, c1, rfl, hc1, C1⟩ := Kd.R_reads h1.1
  refine (tattlerref16_Same.calls (l0.length + 1) A0 c0 l0 A1 c1 l1 _ w C0 hc0 C1 hc1 (same_f l0 l1 hm)).mono ?_
  rintro e w' ⟨rfl, d⟩
  exact ⟨rfl, d.below⟩
end Go.Proofs.Ytjhmkmcongjngaa
