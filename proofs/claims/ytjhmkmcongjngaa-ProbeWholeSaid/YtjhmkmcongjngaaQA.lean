import Derived.Test.YtjhmkmcongjngaaQH
import Derived.Test.YtjhmkmcongjngaaLib
import Derived.Lib.Hide
set_option linter.unusedVariables false
set_option linter.unusedSimpArgs false
namespace Go.Proofs.Ytjhmkmcongjngaa
open Go.RowKit Go.Tat Go.Proofs.YtjhmkmcongjngaaW.PrintWords PProbePlays
/-! ### Whom a node asks: what it answers -/
def hlpStep (self n tgt : Int) (out : List Int) (h : Int) : List Int := if out.length < 2 ∧ h ≠ tgt ∧ h ≠ self ∧ h < n ∧ ¬ out.contains h = true then out ++ [h] else out
def rot (l : List Int) (x : Int) : List Int := l.drop (x % l.length).toNat ++ l.take (x % l.length).toNat
def hlpF (self n x : Int) (l : List Int) (tgt : Int) : List Int := (rot l x).foldl (hlpStep self n tgt) []
theorem w64 {x : Int} (h0 : 0 ≤ x) (h1 : x < 9223372036854775808) : wrap64 x = x := by unfold wrap64; omega
theorem idx_l0 (l : List Int) (a : Int) (hl : l.length ≤ 9223372036854775806) : ∀ (d k i : Nat), i ≤ l.length → l.length - i = d → d < k → ∃ r, slices_Index_uint8_uint8.l0 k l a (l.length : Int) (i : Int) = some r ∧ (0 ≤ r ↔ a ∈ l.drop i) := by
  intro d
  induction d with
  | zero =>
    intro k i hi hd hk
    obtain ⟨k, rfl⟩ : ∃ m, k = m + 1 := ⟨k - 1, by omega⟩
    simp only [slices_Index_uint8_uint8.l0]
    rw [if_neg (by omega)]
    exact ⟨_, rfl, by rw [List.drop_eq_nil_of_le (by omega)]; simp⟩
  | succ d ih =>
    intro k i hi hd hk
    obtain ⟨k, rfl⟩ : ∃ m, k = m + 1 := ⟨k - 1, by omega⟩
    simp only [slices_Index_uint8_uint8.l0]
    rw [if_pos (by omega), if_pos (by omega), if_pos (by omega)]
    have hi' : i < l.length := by omega
    have hr : rd l (i : Int) = l[i] := by unfold rd; rw [Int.toNat_natCast]; simp [List.getD, List.getElem?_eq_getElem hi']
    have hdc := List.drop_eq_getElem_cons hi'
    by_cases h : a = rd l (i : Int)
    · rw [if_pos h]
      exact ⟨_, rfl, by rw [hdc, h, hr]; simp only [List.mem_cons, true_or, iff_true]; omega⟩
    · rw [if_neg h]
      have hw : wrap64 ((i : Int) + 1) = ((i + 1 : Nat) : Int) := by unfold wrap64; omega
      rw [hw]
      obtain ⟨r, h1, h2⟩ := ih k (i + 1) (by omega) (by omega) (by omega)
      refine ⟨r, h1, h2.trans ?_⟩
      rw [hr] at h
      rw [hdc]
      simp only [List.mem_cons, h, false_or]
theorem contains_f (l : List Int) (a : Int) (k : Nat) (hl : l.length ≤ 9223372036854775806) (hk : l.length < k) : slices_Contains_uint8_uint8.f k l a = some (l.contains a) := by
  obtain ⟨r, h1, h2⟩ := idx_l0 l a hl l.length k 0 (by omega) (by omega) hk
  unfold slices_Contains_uint8_uint8.f slices_Index_uint8_uint8.f
  have h1' : slices_Index_uint8_uint8.l0 k l a (l.length : Int) 0 = some r := h1
  rw [h1']
  simp only [Option.bind_some, Option.some.injEq]
  rw [List.drop_zero] at h2
  rw [Bool.eq_iff_iff, decide_eq_true_eq, ge_iff_le, h2]; simp
theorem rot_get (l : List Int) (x : Int) (hx : 0 ≤ x) (i : Nat) (hi : i < l.length) : (rot l x)[i]? = some (rd l ((x % l.length + i) % l.length)) := by
  have hl : (0 : Int) < l.length := by omega
  obtain ⟨f, hf⟩ : ∃ f : Nat, (x % l.length).toNat = f := ⟨_, rfl⟩
  have hm := Int.emod_nonneg x (b := (l.length : Int)) (by omega)
  have hm2 := Int.emod_lt_of_pos x hl
  have hxf : x % l.length = (f : Int) := by omega
  have hfl : f < l.length := by omega
  unfold rot rd
  rw [hf, hxf]
  by_cases h : f + i < l.length
  · have e : (((f : Int) + (i : Int)) % (l.length : Int)).toNat = f + i := by
      rw [Int.emod_eq_of_lt (by omega) (by omega)]; omega
    rw [e, List.getElem?_append_left (by simp; omega), List.getElem?_drop]
    simp [List.getD, List.getElem?_eq_getElem h]
  · have e : (((f : Int) + (i : Int)) % (l.length : Int)).toNat = f + i - l.length := by
      rw [show (f : Int) + (i : Int) = ((f + i - l.length : Nat) : Int) + (l.length : Int) by omega, Int.add_emod_right, Int.emod_eq_of_lt (by omega) (by omega)]; omega
    rw [e, List.getElem?_append_right (by simp; omega), List.length_drop, List.getElem?_take, if_pos (by omega)]
    have : i - (l.length - f) = f + i - l.length := by omega
    rw [this]
    have h2 : f + i - l.length < l.length := by omega
    simp [List.getD, List.getElem?_eq_getElem h2]
theorem rot_length (l : List Int) (x : Int) : (rot l x).length = l.length := by
  unfold rot; simp; omega
theorem u64_wrap {a : Int} (h0 : 0 ≤ a) (h1 : a < 18446744073709551616) : IntKind.u64.wrap a = a := by
  have : IntKind.u64.wrap a = a % 18446744073709551616 := rfl
  rw [this, Int.emod_eq_of_lt h0 h1]
theorem hlp_len {self n tgt : Int} : ∀ (hs out : List Int), out.length ≤ 2 → (hs.foldl (hlpStep self n tgt) out).length ≤ 2
  | [], out, h => h
  | x :: hs, out, h => by
    rw [List.foldl_cons]
    refine hlp_len hs _ ?_
    unfold hlpStep; split
    · rename_i h2; simp; omega
    · exact h
set_option maxHeartbeats 1000000 in
theorem hlp_l0 (self n place x tgt : Int) (row : List Int) (waits : List S82) (l : List Int) (hx : 0 ≤ x) (hl : l.length ≤ 4000000000000000000) (hv : ∀ h ∈ l, 0 ≤ h ∧ h < 256) : ∀ (d k i : Nat) (out : List Int), i ≤ l.length → l.length - i = d → d + 4 < k → out.length ≤ 2 →
    Own.probe_Probe_helpers.l0 k x l tgt out (l.length : Int) (i : Int) self n row place waits = some (((rot l x).drop i).foldl (hlpStep self n tgt) out, self, n, place) := by
  intro d
  induction d with
  | zero =>
    intro k i out hi hd hk ho
    obtain ⟨k, rfl⟩ : ∃ m, k = m + 1 := ⟨k - 1, by omega⟩
    simp only [Own.probe_Probe_helpers.l0]
    rw [if_neg (by omega), List.drop_eq_nil_of_le (by rw [rot_length]; omega)]
    rfl
  | succ d ih =>
    intro k i out hi hd hk ho
    obtain ⟨k, rfl⟩ : ∃ m, k = m + 1 := ⟨k - 1, by omega⟩
    have hi' : i < l.length := by omega
    have hlp : (0 : Int) < l.length := by omega
    have hm := Int.emod_nonneg x (b := (l.length : Int)) (by omega)
    have hm2 := Int.emod_lt_of_pos x hlp
    have e1 : Int.tmod (IntKind.u64.wrap (Int.tmod x (IntKind.u64.wrap (l.length : Int)) + IntKind.u64.wrap (i : Int))) (IntKind.u64.wrap (l.length : Int)) = (x % l.length + i) % l.length := by
      rw [u64_wrap (a := (l.length : Int)) (by omega) (by omega), u64_wrap (a := (i : Int)) (by omega) (by omega), Int.tmod_eq_emod_of_nonneg hx, u64_wrap (by omega) (by omega), Int.tmod_eq_emod_of_nonneg (by omega)]
    obtain ⟨j, hj⟩ : ∃ j, (x % (l.length : Int) + (i : Int)) % (l.length : Int) = j := ⟨_, rfl⟩
    have hj0 : 0 ≤ j := hj ▸ Int.emod_nonneg _ (by omega)
    have hj1 : j < l.length := hj ▸ Int.emod_lt_of_pos _ hlp
    have hr := rot_get l x hx i hi'
    rw [hj] at hr e1
    have hmem : rd l j ∈ l := by
      unfold rd
      have : j.toNat < l.length := by omega
      rw [List.getD_eq_getElem?_getD, List.getElem?_eq_getElem this]; exact List.getElem_mem _
    have hb := hv _ hmem
    have hilt : i < (rot l x).length := by rw [rot_length]; exact hi'
    have hdrop : (rot l x).drop i = rd l j :: (rot l x).drop (i + 1) := by
      rw [List.drop_eq_getElem_cons hilt]; congr 1
      rw [List.getElem?_eq_getElem hilt] at hr; exact Option.some.inj hr
    rw [hdrop, List.foldl_cons]
    simp only [Own.probe_Probe_helpers.l0]
    rw [e1]
    clear hj hr hdrop e1 hm hm2
    have hil : (i : Int) < (l.length : Int) := Int.ofNat_lt.2 hi'
    have hl0 : ¬ (l.length : Int) = 0 := Int.ne_of_gt hlp
    have hw : wrap64 ((i : Int) + 1) = ((i + 1 : Nat) : Int) := (w64 (by omega) (by omega)).trans rfl
    have hw2 : wrap64 (rd l j) = rd l j := w64 hb.1 (by omega)
    have hwr : IntKind.u64.wrap (l.length : Int) = l.length := u64_wrap (by omega) (by omega)
    rw [hwr, hw, hw2]
    clear hwr hw hw2
    rw [if_pos hil, if_neg hl0, if_pos hj0, if_pos hj1]
    have go : ∀ out', out'.length ≤ 2 → hlpStep self n tgt out (rd l j) = out' → Own.probe_Probe_helpers.l0 k x l tgt out' (l.length : Int) ((i + 1 : Nat) : Int) self n row place waits = some (((rot l x).drop (i + 1)).foldl (hlpStep self n tgt) (hlpStep self n tgt out (rd l j)), self, n, place) := fun out' ho' he => by
      rw [he]; exact ih k (i + 1) out' (by omega) (by omega) (by omega) ho'
    have skip : ¬ (out.length < 2 ∧ rd l j ≠ tgt ∧ rd l j ≠ self ∧ rd l j < n ∧ ¬ out.contains (rd l j) = true) → hlpStep self n tgt out (rd l j) = out := fun h => by unfold hlpStep; rw [if_neg h]
    by_cases h1 : out.length < 2
    · have h1' : (out.length : Int) < 2 := by omega
      rw [if_pos h1']
      by_cases h2 : rd l j = tgt
      · rw [if_pos h2]; exact go _ ho (skip fun h => h.2.1 h2)
      · rw [if_neg h2]
        by_cases h3 : rd l j = self
        · rw [if_pos h3]; exact go _ ho (skip fun h => h.2.2.1 h3)
        · rw [if_neg h3]
          by_cases h4 : rd l j < n
          · rw [if_pos h4, contains_f out _ k (by omega) (by omega)]
            simp only [Option.bind_some]
            by_cases h5 : out.contains (rd l j) = true
            · rw [if_pos h5]; exact go _ ho (skip fun h => h.2.2.2.2 h5)
            · have h6 : out.length < 140737488355328 := by omega
              rw [if_neg h5, if_pos h6]
              exact go _ (by simp; omega) (by unfold hlpStep; rw [if_pos ⟨h1, h2, h3, h4, h5⟩])
          · rw [if_neg h4]; exact go _ ho (skip fun h => h4 h.2.2.2.1)
    · have h1' : ¬ (out.length : Int) < 2 := by omega
      rw [if_neg h1']; exact go _ ho (skip fun h => h1 h.1)
theorem hlp_f (self n place x tgt : Int) (row : List Int) (waits : List S82) (l : List Int) (hx : 0 ≤ x) (hl : l.length ≤ 4000000000000000000) (hv : ∀ h ∈ l, 0 ≤ h ∧ h < 256) :
    Own.probe_Probe_helpers.f (l.length + 5) self n row place waits x l tgt = some (hlpF self n x l tgt, self, n, place) := by
  unfold Own.probe_Probe_helpers.f
  have := hlp_l0 self n place x tgt row waits l hx hl hv l.length (l.length + 5) 0 [] (by omega) (by omega) (by omega) (by simp)
  rw [List.drop_zero] at this
  exact this
end Go.Proofs.Ytjhmkmcongjngaa
