import Derived.Test.YticbobhkijpbkaaRF
namespace Go.Proofs.Yticbobhkijpbkaa
open Go.RowKit Go.Tat Go.Proofs.YticbobhkijpbkaaW.PrintWords PRingOwners
/-! ### Small functions -/
theorem rd_get (l : List Int) (i : Nat) (h : i < l.length) : rd l (i : Int) = l[i] := by
  unfold rd
  simp [h]
theorem same_l (l0 l1 : List Int) (he : l0.length = l1.length) (hl : l0.length < 4611686018427387904) : ∀ d i k, i + d = l0.length → d < k → tattlerref16_Same.l0 k l0 l1 (l0.length : Int) (i : Int) = some (decide (l0.drop i = l1.drop i))
  | 0, i, k + 1, h, _ => by
    have h1 : ¬ (i : Int) < (l0.length : Int) := by omega
    rw [tattlerref16_Same.l0, if_neg h1, List.drop_eq_nil_of_le (by omega), List.drop_eq_nil_of_le (by omega)]
    rfl
  | d + 1, i, k + 1, h, hk => by
    have h1 : (i : Int) < (l0.length : Int) := by omega
    have h2 : (0 : Int) ≤ (i : Int) := by omega
    have h3 : (i : Int) < (l1.length : Int) := by omega
    have h4 : i < l0.length := by omega
    have h5 : i < l1.length := by omega
    have e2 : (l0.drop i = l1.drop i) ↔ (l0[i] = l1[i] ∧ l0.drop (i + 1) = l1.drop (i + 1)) := by rw [List.drop_eq_getElem_cons h4, List.drop_eq_getElem_cons h5, List.cons.injEq]
    rw [tattlerref16_Same.l0, if_pos h1, if_pos h2, if_pos h1, if_pos h3, rd_get l0 i h4, rd_get l1 i h5, wrap64_succ h4 hl, (decide_eq_decide.2 e2 : decide (l0.drop i = l1.drop i) = decide (l0[i] = l1[i] ∧ l0.drop (i + 1) = l1.drop (i + 1)))]
    by_cases e : l0[i] = l1[i]
    · rw [if_pos e, same_l l0 l1 he hl d (i + 1) k (by omega) (by omega)]
      simp only [e, true_and]
    · rw [if_neg e]
      simp only [e, false_and, decide_false]
theorem same_is (l0 l1 : List Int) (hl : l0.length < 4611686018427387904) : tattlerref16_Same.f (l0.length + 1) l0 l1 = some (decide (l0 = l1)) := by
  unfold tattlerref16_Same.f
  by_cases he : l0.length = l1.length
  · rw [if_pos (by omega)]
    have := same_l l0 l1 he hl l0.length 0 (l0.length + 1) (by omega) (by omega)
    simpa using this
  · rw [if_neg (by omega)]
    have : l0 ≠ l1 := fun e => he (by rw [e])
    simp [this]
theorem same_c (l0 l1 : List Int) (A0 A1 : Option Addr) (c0 c1 : Nat) (w : World) (h0 : (Kd.int .u8).C w A0 l0.length l0) (hc0 : l0.length ≤ c0) (h1 : (Kd.int .u8).C w A1 l1.length l1) (hc1 : l1.length ≤ c1) (hl : l0.length < 4611686018427387904) :
    Calls Try.prog 11 #[.slice A0 l0.length c0, .slice A1 l1.length c1] w fun e w' => e = .returned (.bool (decide (l0 = l1))) ∧ Drawn0 w w' :=
  tattlerref16_Same.calls _ A0 c0 l0 A1 c1 l1 _ w h0 hc0 h1 hc1 (same_is l0 l1 hl)
theorem index_l (l : List Int) (x : Int) (hl : l.length < 4611686018427387904) : ∀ d i k, i + d = l.length → d < k → ∃ r, slices_Index_uint8_uint8.l0 k l x (l.length : Int) (i : Int) = some r ∧ (0 ≤ r ↔ x ∈ l.drop i)
  | 0, i, k + 1, h, _ => by
    have h1 : ¬ (i : Int) < (l.length : Int) := by omega
    rw [slices_Index_uint8_uint8.l0, if_neg h1, List.drop_eq_nil_of_le (by omega)]
    exact ⟨_, rfl, by simp⟩
  | d + 1, i, k + 1, h, hk => by
    have h1 : (i : Int) < (l.length : Int) := by omega
    have h2 : (0 : Int) ≤ (i : Int) := by omega
    have h4 : i < l.length := by omega
    have e2 : x ∈ l.drop i ↔ (x = l[i] ∨ x ∈ l.drop (i + 1)) := by rw [List.drop_eq_getElem_cons h4, List.mem_cons]
    rw [slices_Index_uint8_uint8.l0, if_pos h1, if_pos h2, if_pos h1, rd_get l i h4, wrap64_succ h4 hl]
    by_cases e : x = l[i]
    · rw [if_pos e]
      exact ⟨_, rfl, by rw [e2]; exact ⟨fun _ => .inl e, fun _ => h2⟩⟩
    · rw [if_neg e]
      obtain ⟨r, hr, hi⟩ := index_l l x hl d (i + 1) k (by omega) (by omega)
      exact ⟨r, hr, by rw [hi, e2]; exact ⟨.inr, fun h => h.resolve_left e⟩⟩
theorem contains_is (l : List Int) (x : Int) (hl : l.length < 4611686018427387904) : slices_Contains_uint8_uint8.f (l.length + 1) l x = some (decide (x ∈ l)) := by
  obtain ⟨r, hr, hi⟩ := index_l l x hl l.length 0 (l.length + 1) (by omega) (by omega)
  have hr' : slices_Index_uint8_uint8.f (l.length + 1) l x = some r := hr
  unfold slices_Contains_uint8_uint8.f
  rw [hr', Option.bind_some]
  have : (r ≥ 0) = (x ∈ l) := propext hi
  simp only [this]
theorem contains_c (l : List Int) (x : Int) (A : Option Addr) (c : Nat) (w : World) (h : (Kd.int .u8).C w A l.length l) (hc : l.length ≤ c) (hl : l.length < 4611686018427387904) :
    Calls Try.prog 31 #[.slice A l.length c, .int .u8 x] w fun e w' => e = .returned (.bool (decide (x ∈ l))) ∧ Drawn0 w w' :=
  slices_Contains_uint8_uint8.calls _ A c l x _ w h hc (contains_is l x hl)
theorem own_len (key : ByteArray) (l : List Int) : (own key l).length ≤ 2 := by
  unfold own
  rw [List.length_take]
  omega
theorem own_mem {key : ByteArray} {l : List Int} {x : Int} (h : x ∈ own key l) : x ∈ l ∧ x < 64 := (srt_mem key l x).1 (List.mem_of_mem_take h)
set_option maxRecDepth 100000 in
theorem owns_c (key : ByteArray) (hs : key.size ≤ 1000000) (l : List Int) (Al : Option Addr) (c : Nat) (w : World) (hC : (Kd.int .u8).C w Al l.length l) (h0 : ∀ x ∈ l, 0 ≤ x ∧ x < 256) (hl : l.length ≤ 1000000) (n : Int) :
    Calls Try.prog 16 #[.string key, .slice Al l.length c, .int .u8 n] w fun e w' => e = .returned (.bool (decide (n ∈ own key l))) ∧ Below w.heap.size w w' := by
  have HO := owners_c key hs l Al c w hC h0 hl
  have hol := own_len key l
  clear hC h0 hl
  generalize own key l = o at *
  have HO := Lib.hid HO
  go_enter Try.func16, Try.ntmps16
  go_wp2_with fail
  refine HO.out.mono ?_
  rintro e w1 ⟨v, rfl, S1⟩
  obtain ⟨Av, cv, rfl⟩ := Kd.R_slice (S1.get 0 rfl).1
  have hr := Kd.R_reads' (S1.get 0 rfl).1
  have HB := Lib.hid S1.base
  have HK := Lib.hid (contains_c o n Av cv w1 hr.2.2 hr.2.1 (by omega))
  clear S1 HO hr hol
  go_wp2_with fail
  refine HK.out.mono ?_
  rintro e w2 ⟨rfl, dr⟩
  have HB2 := Lib.hid (HB.out.trans (dr.below.mono HB.out.size))
  clear dr HB HK
  go_wp2_with fail
  go_ret
  exact ⟨rfl, HB2.out⟩
/-! ### The chapter's examples -/
theorem own_33 (key : ByteArray) : own key [3, 3] = [3] := rfl
theorem own_nil (key : ByteArray) : own key [] = [] := rfl
theorem own_012 (key : ByteArray) : (own key [0, 1, 2]).length = 2 := by
  unfold own
  have h : (srt key [0, 1, 2]).length = 3 := by
    unfold srt
    rw [List.length_map, (isort_perm _).length_eq]
    rfl
  rw [List.length_take, h]
  rfl
set_option maxRecDepth 100000 in
theorem fixed_c (w : World) : Calls Try.prog 10 #[] w fun e w' => e = .returned (.bool true) ∧ Below w.heap.size w w' := by
  obtain ⟨key, hkey⟩ : ∃ key : ByteArray, key = { data := #[107, 101, 121] } := ⟨_, rfl⟩
  have hks : key.size ≤ 1000000 := by rw [hkey]; decide
  have B0 := (Below.refl w.heap.size w).alloc (Nat.le_refl _) (.cells #[.int .u8 3, .int .u8 3] 5)
  have h1 := Lib.hid (owners_c key hks [3, 3] _ 2 (w.alloc (.cells #[.int .u8 3, .int .u8 3] 5)) (C_ints (k := .u8) (t := 5) [3, 3] (heap_alloc_new w _) (by decide)) (by simp) (by decide))
  have hB := Lib.hid B0
  clear B0
  rw [own_33] at h1
  have HK := Lib.hid hks
  go_enter Try.func10, Try.ntmps10
  go_wp2_with fail
  rw [← hkey]
  generalize w.alloc _ = w0 at *
  refine h1.out.mono ?_
  rintro e w1 ⟨v, rfl, S1⟩
  obtain ⟨Av, cv, rfl⟩ := Kd.R_slice (S1.get 0 rfl).1
  have S2 := S1.new' #[.int .u8 3] 5 w1.heap.size rfl
  have B2 := hB.out.trans (S2.base.mono hB.out.size)
  have hr := Kd.R_reads' (S2.get 0 rfl).1
  have h2 := Lib.hid (same_c [3] [3] _ _ _ 1 _ hr.2.2 hr.2.1 (C_ints (k := .u8) (t := 5) [3] (S2.get 1 rfl) (by decide)) (by decide) (by decide))
  have hB2 := Lib.hid B2
  clear h1 hB S1 S2 B2 hr
  go_wp2_with fail
  generalize w1.alloc _ = w2 at *
  refine h2.out.mono ?_
  rintro e w3 ⟨rfl, dr⟩
  have B3 := hB2.out.trans (dr.below.mono hB2.out.size)
  have hB3 := Lib.hid B3
  have h3 := Lib.hid (owners_c key HK.out [] none 0 w3 (Kd.C_nil _ _) (by simp) (by decide))
  rw [own_nil] at h3
  clear h2 hB2 dr B3
  go_wp2_with fail
  rw [← hkey]
  refine h3.out.mono ?_
  rintro e w4 ⟨v, rfl, S4⟩
  obtain ⟨Aw, cw, rfl⟩ := Kd.R_slice (S4.get 0 rfl).1
  have B4 := (hB3.out.trans (S4.base.mono hB3.out.size)).alloc (hB3.out.trans (S4.base.mono hB3.out.size)).size (.cells #[.int .u8 0, .int .u8 1, .int .u8 2] 5)
  have hB4 := Lib.hid B4
  have h5 := Lib.hid (owners_c key HK.out [0, 1, 2] _ 3 (w4.alloc (.cells #[.int .u8 0, .int .u8 1, .int .u8 2] 5)) (C_ints (k := .u8) (t := 5) [0, 1, 2] (heap_alloc_new w4 _) (by decide)) (by simp) (by decide))
  clear S4 B4 h3 hB3
  go_wp2_with fail
  rw [← hkey]
  generalize w4.alloc _ = w5 at *
  refine h5.out.mono ?_
  rintro e w6 ⟨v, rfl, S6⟩
  have hlen := own_012 key
  generalize own key [0, 1, 2] = o at *
  obtain ⟨Ax, cx, rfl⟩ := Kd.R_slice (S6.get 0 rfl).1
  rw [hlen]
  have hB6 := Lib.hid (hB4.out.trans (S6.base.mono hB4.out.size))
  clear S6 h5 hB4
  go_wp2_with fail
  go_ret
  exact ⟨rfl, hB6.out⟩
/-! ### More than is gone through? -/
def greatB (key : ByteArray) (ls : List (List Int)) : Bool := decide (1000 < key.size) || ls.any fun l => decide (200 < l.length)
theorem great_l (ls : List (List Int)) (hl : ls.length < 4611686018427387904) : ∀ d i k, i + d = ls.length → d < k → tattlerlaw16_great.l0 k ls (ls.length : Int) (i : Int) = some ((ls.drop i).any fun l => decide (200 < l.length))
  | 0, i, k + 1, h, _ => by
    have h1 : ¬ (i : Int) < (ls.length : Int) := by omega
    rw [tattlerlaw16_great.l0, if_neg h1, List.drop_eq_nil_of_le (by omega)]
    rfl
  | d + 1, i, k + 1, h, hk => by
    have h1 : (i : Int) < (ls.length : Int) := by omega
    have h2 : (0 : Int) ≤ (i : Int) := by omega
    have h4 : i < ls.length := by omega
    have h5 : rd_L1 ls (i : Int) = ls[i] := by
      unfold rd_L1
      simp [h4]
    have e2 : ((ls.drop i).any fun l => decide (200 < l.length)) = (decide (200 < (ls[i]).length) || (ls.drop (i + 1)).any fun l => decide (200 < l.length)) := by rw [List.drop_eq_getElem_cons h4, List.any_cons]
    rw [tattlerlaw16_great.l0, if_pos h1, if_pos h2, if_pos h1, h5, wrap64_succ h4 hl, e2]
    by_cases e : 200 < (ls[i]).length
    · rw [if_pos (by omega), decide_eq_true e]
      rfl
    · rw [if_neg (by omega), decide_eq_false e, great_l ls hl d (i + 1) k (by omega) (by omega)]
      rfl
theorem great_c (key : ByteArray) (ls : List (List Int)) (A : Option Addr) (c : Nat) (w : World) (h : (Kd.slice 5 (Kd.int .u8)).C w A ls.length ls) (hc : ls.length ≤ c) (hl : ls.length < 4611686018427387904) :
    Calls Try.prog 9 #[.string key, .slice A ls.length c] w fun e w' => e = .returned (.bool (greatB key ls)) ∧ Drawn0 w w' := by
  refine tattlerlaw16_great.calls (ls.length + 1) key A c ls _ w h hc ?_
  unfold tattlerlaw16_great.f greatB
  by_cases e : 1000 < key.size
  · rw [if_pos (by omega), decide_eq_true e]
    rfl
  · rw [if_neg (by omega), decide_eq_false e]
    have := great_l ls hl ls.length 0 (ls.length + 1) (by omega) (by omega)
    simpa using this
end Go.Proofs.Yticbobhkijpbkaa
