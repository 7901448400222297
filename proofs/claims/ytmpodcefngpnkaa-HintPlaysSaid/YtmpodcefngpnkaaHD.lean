/- Records: which may be; which stands ahead, as the document has it. -/
import Derived.Test.YtmpodcefngpnkaaHC
namespace Go.Proofs.Ytmpodcefngpnkaa
open Go.RowKit Go.Tat Go.Proofs.YtmpodcefngpnkaaW.PrintWords PHintPlays
theorem wrap64_succ {i m : Nat} (h : i < m) (hm : m < 4611686018427387904) : wrap64 ((i : Int) + 1) = ((i + 1 : Nat) : Int) := by unfold wrap64; omega
/-- No sign of the key is a blank. -/
def scanK (s : ByteArray) (i : Nat) : Nat → Bool
  | 0 => true
  | d + 1 => if bt s (i : Int) ≤ 32 then false else if bt s (i : Int) = 127 then false else scanK s (i + 1) d
def keyB (s : ByteArray) : Bool := scanK s 0 s.size && decide (1 ≤ s.size) && decide (s.size ≤ 250)
theorem key_l (s : ByteArray) (hs : s.size < 4611686018427387904) : ∀ d i k, i + d = s.size → d < k → rec_KeyMay.l0 k s (s.size : Int) (i : Int) = some (scanK s i d && decide (1 ≤ s.size) && decide (s.size ≤ 250))
  | 0, i, k, h, hk => by
    obtain ⟨k, rfl⟩ : ∃ m, k = m + 1 := ⟨k - 1, by omega⟩
    simp only [rec_KeyMay.l0]
    rw [if_neg (by omega)]
    unfold scanK
    by_cases h1 : 1 ≤ s.size
    · rw [if_pos (by omega)]
      have : decide ((s.size : Int) ≤ 250) = decide (s.size ≤ 250) := by rw [decide_eq_decide]; omega
      simp [h1, this]
    · rw [if_neg (by omega)]
      simp [h1]
  | d + 1, i, k, h, hk => by
    obtain ⟨k, rfl⟩ : ∃ m, k = m + 1 := ⟨k - 1, by omega⟩
    simp only [rec_KeyMay.l0]
    rw [if_pos (by omega), if_pos (by omega), if_pos (by omega)]
    unfold scanK
    by_cases h1 : bt s (i : Int) ≤ 32
    · rw [if_pos h1, if_pos h1]; simp
    · rw [if_neg h1, if_neg h1]
      by_cases h2 : bt s (i : Int) = 127
      · rw [if_pos h2, if_pos h2]; simp
      · rw [if_neg h2, if_neg h2, wrap64_succ (m := s.size) (by omega) hs]
        exact key_l s hs d (i + 1) k (by omega) (by omega)
theorem key_is (s : ByteArray) (hs : s.size < 4611686018427387904) (k : Nat) (hk : s.size < k) : rec_KeyMay.f k s = some (keyB s) := key_l s hs s.size 0 k (by omega) hk
theorem rkey_l (s : ByteArray) (hs : s.size < 4611686018427387904) : ∀ d i k, i + d = s.size → d < k → tattlerref06_KeyMay.l0 k s (i : Int) = some (scanK s i d)
  | 0, i, k, h, hk => by
    obtain ⟨k, rfl⟩ : ∃ m, k = m + 1 := ⟨k - 1, by omega⟩
    simp only [tattlerref06_KeyMay.l0]
    rw [if_neg (by omega)]
    rfl
  | d + 1, i, k, h, hk => by
    obtain ⟨k, rfl⟩ : ∃ m, k = m + 1 := ⟨k - 1, by omega⟩
    simp only [tattlerref06_KeyMay.l0]
    rw [if_pos (by omega), if_pos (by omega)]
    unfold scanK
    by_cases h1 : bt s (i : Int) ≤ 32
    · rw [if_pos (by omega), if_pos h1]
    · rw [if_neg (by omega), if_neg h1]
      by_cases h2 : bt s (i : Int) = 127
      · rw [if_pos h2, if_pos h2]
      · rw [if_neg h2, if_neg h2, wrap64_succ (m := s.size) (by omega) hs]
        exact rkey_l s hs d (i + 1) k (by omega) (by omega)
theorem rkey_is (s : ByteArray) (hs : s.size < 4611686018427387904) (k : Nat) (hk : s.size + 1 < k) : tattlerref06_KeyMay.f k s = some (keyB s) := by
  obtain ⟨k, rfl⟩ : ∃ m, k = m + 1 := ⟨k - 1, by omega⟩
  unfold tattlerref06_KeyMay.f keyB
  by_cases h0 : (s.size : Int) = 0
  · rw [if_pos h0]
    simp only [tattlerref06_KeyMay.j0, if_true]
    have : ¬ 1 ≤ s.size := by omega
    simp [this]
  · rw [if_neg h0]
    have h1 : 1 ≤ s.size := by omega
    simp only [tattlerref06_KeyMay.j0]
    by_cases h2 : (s.size : Int) > 250
    · have h3 : ¬ s.size ≤ 250 := by omega
      simp [h2, h3]
    · have h3 : s.size ≤ 250 := by omega
      rw [if_neg (by simpa using h2)]
      have := rkey_l s hs s.size 0 k (by omega) (by omega)
      rw [show ((0 : Nat) : Int) = 0 from rfl] at this
      rw [this]
      simp [h1, h3]
def emptyB (s : ByteArray) : Bool := s.toList == ([] : List UInt8)
def mayB (r : Rc) : Bool := keyB r.f0 && decide (r.f1.f0 ≤ 281474976710655) && decide (r.f1.f2 < 64) && decide (r.f4 ≤ 281474976710655) && decide (r.f5.size ≤ 1024) &&
  (decide (r.f2 = 3) || ((decide (r.f2 = 1) || decide (r.f2 = 2)) && decide (r.f3 = 0) && decide (r.f4 = 0) && emptyB r.f5))
theorem may_is (r : Rc) (hs : r.f0.size < 4611686018427387904) (k : Nat) (hk : r.f0.size < k) : rec_May.f k r.f0 r.f1.f0 r.f1.f1 r.f1.f2 r.f2 r.f3 r.f4 r.f5 = some (mayB r) := by
  obtain ⟨rk, ⟨rp, rl, rn⟩, rd, rf, re, rb⟩ := r
  obtain ⟨k, rfl⟩ : ∃ m, k = m + 1 := ⟨k - 1, by omega⟩
  unfold rec_May.f mayB emptyB
  dsimp only at *
  rw [key_is rk hs _ hk, Option.bind_some]
  have hb : ((rb.size : Int) > 1024) ↔ ¬ rb.size ≤ 1024 := by omega
  cases keyB rk with
  | false => simp [rec_May.j0]
  | true =>
    rw [if_pos rfl]
    by_cases h1 : rp > 281474976710655
    · have : ¬ rp ≤ 281474976710655 := by omega
      rw [if_pos h1]; simp [rec_May.j0, this]
    · have e1 : rp ≤ 281474976710655 := by omega
      rw [if_neg h1]
      by_cases h2 : rn ≥ 64
      · have : ¬ rn < 64 := by omega
        rw [if_pos h2]; simp [rec_May.j0, this]
      · have e2 : rn < 64 := by omega
        rw [if_neg h2]
        by_cases h3 : re > 281474976710655
        · have : ¬ re ≤ 281474976710655 := by omega
          rw [if_pos h3]; simp [rec_May.j0, this]
        · have e3 : re ≤ 281474976710655 := by omega
          rw [if_neg h3]
          simp only [rec_May.j0, hb]
          by_cases h4 : rb.size ≤ 1024
          · by_cases k3 : rd = 3
            · simp [h4, k3, e1, e2, e3]
            · by_cases k1 : rd = 1
              · by_cases f0 : rf = 0 <;> by_cases x0 : re = 0 <;> simp [h4, k1, e1, e2, e3, f0, x0] <;> omega
              · by_cases k2 : rd = 2
                · by_cases f0 : rf = 0 <;> by_cases x0 : re = 0 <;> simp [h4, k2, e1, e2, e3, f0, x0] <;> omega
                · simp [h4, k1, k2, k3]
          · simp [h4]
theorem rmay_is (r : Rc) (hs : r.f0.size < 4611686018427387904) (k : Nat) (hk : r.f0.size + 1 < k) : tattlerref06_May.f k r.f0 r.f1.f0 r.f1.f1 r.f1.f2 r.f2 r.f3 r.f4 r.f5 = some (mayB r) := by
  obtain ⟨rk, ⟨rp, rl, rn⟩, rd, rf, re, rb⟩ := r
  dsimp only at *
  unfold tattlerref06_May.f mayB emptyB
  dsimp only
  rw [rkey_is rk hs _ hk, Option.bind_some]
  obtain ⟨k, rfl⟩ : ∃ m, k = m + 1 := ⟨k - 1, by omega⟩
  have hb : ((rb.size : Int) > 1024) ↔ ¬ rb.size ≤ 1024 := by omega
  cases keyB rk with
  | false => simp [tattlerref06_May.j0]
  | true =>
    rw [if_pos rfl]
    by_cases h1 : rp > 281474976710655
    · have : ¬ rp ≤ 281474976710655 := by omega
      rw [if_pos h1]; simp [tattlerref06_May.j0, this]
    · have e1 : rp ≤ 281474976710655 := by omega
      rw [if_neg h1]
      by_cases h2 : rn > 63
      · have : ¬ rn < 64 := by omega
        rw [if_pos h2]; simp [tattlerref06_May.j0, this]
      · have e2 : rn < 64 := by omega
        rw [if_neg h2]
        by_cases h3 : re > 281474976710655
        · have : ¬ re ≤ 281474976710655 := by omega
          rw [if_pos h3]; simp [tattlerref06_May.j0, this]
        · have e3 : re ≤ 281474976710655 := by omega
          rw [if_neg h3]
          simp only [tattlerref06_May.j0, hb]
          by_cases h4 : rb.size ≤ 1024
          · by_cases k1 : rd = 1
            · by_cases f0 : rf = 0 <;> by_cases x0 : re = 0 <;> simp [h4, k1, e1, e2, e3, f0, x0] <;> omega
            · by_cases k2 : rd = 2
              · by_cases f0 : rf = 0 <;> by_cases x0 : re = 0 <;> simp [h4, k2, e1, e2, e3, f0, x0] <;> omega
              · by_cases k3 : rd = 3
                · simp [h4, k3, e1, e2, e3]
                · simp [h4, k1, k2, k3]
          · simp [h4]
theorem may_c (r : Rc) (hs : r.f0.size < 4611686018427387904) (w : World) : Calls Try.prog 29 #[.agg (eRc r).toArray] w fun e w' => e = .returned (.bool (mayB r)) ∧ Below w.heap.size w w' :=
  rec_May.calls (r.f0.size + 1) r.f0 r.f1.f0 r.f1.f1 r.f1.f2 r.f2 r.f3 r.f4 r.f5 _ w (may_is r hs _ (by omega))
theorem rmay_c (r : Rc) (hs : r.f0.size < 4611686018427387904) (w : World) : Calls Try.prog 40 #[.agg (eRc r).toArray] w fun e w' => e = .returned (.bool (mayB r)) ∧ Below w.heap.size w w' :=
  tattlerref06_May.calls (r.f0.size + 2) r.f0 r.f1.f0 r.f1.f1 r.f1.f2 r.f2 r.f3 r.f4 r.f5 _ w (rmay_is r hs _ (by omega))
/-! ### Less -/
theorem cN_lt (x y : Int) : cN x y < 0 ↔ x < y := by unfold cN; split <;> (try split) <;> omega
theorem sless_is (a b : Stp) : tattlerref05_Less.f a.f0 a.f1 a.f2 b.f0 b.f1 b.f2 = some (decide (hlcF a b < 0)) := by
  unfold tattlerref05_Less.f hlcF
  split
  · split
    · simp [cN_lt]
    · simp [cN_lt]
  · simp [cN_lt]
theorem sless_c (a b : Stp) (w : World) : Calls Try.prog 26 #[.agg (eStp a).toArray, .agg (eStp b).toArray] w fun e w' => e = .returned (.bool (decide (hlcF a b < 0))) ∧ Below w.heap.size w w' :=
  tattlerref05_Less.calls a.f0 a.f1 a.f2 b.f0 b.f1 b.f2 _ w (sless_is a b)
theorem bt_list (s : ByteArray) (i : Nat) (h : i < s.size) : ∃ h' : i < s.data.toList.length, bt s (i : Int) = ((s.data.toList[i]'h').toNat : Int) := by
  refine ⟨by simpa using h, ?_⟩
  unfold bt
  rw [dif_pos (by simpa using h)]
  simp [ByteArray.getElem_eq_getElem_data]
theorem ahead_l (a b : ByteArray) (ha : a.size < 4611686018427387904) : ∀ d i k, i + d = a.size → i ≤ b.size → 2 * d + 1 < k → tattlerref06_ahead.l0 k a b (i : Int) = some (decide (Lib.compareBytes (a.data.toList.drop i) (b.data.toList.drop i) < 0))
  | 0, i, k, h, hb, hk => by
    obtain ⟨k, rfl⟩ : ∃ m, k = m + 1 + 1 := ⟨k - 2, by omega⟩
    simp only [tattlerref06_ahead.l0]
    rw [if_neg (by omega)]
    simp only [tattlerref06_ahead.j1]
    rw [if_neg (by simp), List.drop_eq_nil_of_le (by simp; omega)]
    by_cases e : b.size = i
    · rw [List.drop_eq_nil_of_le (by simp; omega)]
      simp [Lib.compareBytes]; omega
    · rw [List.drop_eq_getElem_cons (show i < b.data.toList.length by simp; omega)]
      simp [Lib.compareBytes]; omega
  | d + 1, i, k, h, hb, hk => by
    obtain ⟨k, rfl⟩ : ∃ m, k = m + 1 + 1 := ⟨k - 2, by omega⟩
    simp only [tattlerref06_ahead.l0]
    rw [if_pos (by omega)]
    simp only [tattlerref06_ahead.j1]
    by_cases e : i < b.size
    · obtain ⟨l1, e1⟩ := bt_list a i (by omega)
      obtain ⟨l2, e2⟩ := bt_list b i e
      rw [if_pos (by simpa using e), if_pos (by omega), if_pos (by omega), if_pos (by omega), List.drop_eq_getElem_cons l1, List.drop_eq_getElem_cons l2, e1, e2]
      generalize a.data.toList[i] = x at *
      generalize b.data.toList[i] = y at *
      unfold Lib.compareBytes
      by_cases hxy : x = y
      · subst hxy
        rw [if_pos rfl, if_neg (UInt8.lt_irrefl x), if_neg (UInt8.lt_irrefl x), wrap64_succ (m := a.size) (by omega) ha]
        exact ahead_l a b ha d (i + 1) k (by omega) (by omega) (by omega)
      · have hne : ¬ ((x.toNat : Int) = y.toNat) := fun h => hxy (UInt8.toNat_inj.1 (by exact_mod_cast h))
        rw [if_neg hne]
        by_cases hlt : x < y
        · have : x.toNat < y.toNat := UInt8.lt_iff_toNat_lt.1 hlt
          simp [hlt, this]
        · have h2 : y < x := UInt8.lt_of_le_of_ne (UInt8.not_lt.1 hlt) (Ne.symm hxy)
          have : ¬ x.toNat < y.toNat := fun h => hlt (UInt8.lt_iff_toNat_lt.2 h)
          simp [hlt, h2, this]
    · have e2 : i = b.size := by omega
      rw [if_neg (by simpa using e), List.drop_eq_getElem_cons (show i < a.data.toList.length by simp; omega), List.drop_eq_nil_of_le (show b.data.toList.length ≤ i by simp; omega)]
      simp [Lib.compareBytes]; omega
theorem ahead_is (a b : ByteArray) (ha : a.size < 4611686018427387904) (k : Nat) (hk : 2 * a.size + 1 < k) : tattlerref06_ahead.f k a b = some (decide (cS a b < 0)) := by
  have h := ahead_l a b ha a.size 0 k (by omega) (by omega) hk
  rw [List.drop_zero, List.drop_zero] at h
  exact h
theorem tl_eq (a b : ByteArray) : (a.toList = b.toList) ↔ a = b := by
  rw [Lib.toList_data, Lib.toList_data]
  exact ⟨ba_ext, fun h => by rw [h]⟩
theorem hlcF_eq (a b : Stp) : hlcF a b = 0 ↔ a = b := by
  obtain ⟨a0, a1, a2⟩ := a
  obtain ⟨b0, b1, b2⟩ := b
  unfold hlcF
  dsimp only
  split
  · split
    · rw [cN_eq]; subst_vars; simp
    · rename_i h1 h2
      rw [cN_eq]; simp [h2]
  · rename_i h1
    rw [cN_eq]; simp [h1]
theorem less_is (a b : Rc) (ha : a.f5.size < 4611686018427387904) (k : Nat) (hk : 2 * a.f5.size + 1 < k) : tattlerref06_Less.f k a.f0 a.f1.f0 a.f1.f1 a.f1.f2 a.f2 a.f3 a.f4 a.f5 b.f0 b.f1.f0 b.f1.f1 b.f1.f2 b.f2 b.f3 b.f4 b.f5 = some (decide (recF a b < 0)) := by
  unfold tattlerref06_Less.f recF
  have hst : ((!(a.f1.f0 == b.f1.f0) || (!(a.f1.f1 == b.f1.f1) || (!(a.f1.f2 == b.f1.f2)))) = true) ↔ hlcF a.f1 b.f1 ≠ 0 := by
    rw [ne_eq, hlcF_eq]
    obtain ⟨a0, a1, a2⟩ := a.f1
    obtain ⟨b0, b1, b2⟩ := b.f1
    simp [Classical.or_iff_not_imp_left]
  by_cases h1 : hlcF a.f1 b.f1 ≠ 0
  · rw [if_pos (hst.2 h1), if_pos h1, sless_is, Option.bind_some]
  · rw [if_neg (fun h => h1 (hst.1 h)), if_neg h1]
    by_cases h2 : a.f2 = b.f2
    · rw [if_pos h2, if_neg (show ¬ (a.f2 ≠ b.f2) from fun h => h h2)]
      by_cases h3 : a.f5 = b.f5
      · rw [if_pos ((tl_eq _ _).2 h3), if_neg (show ¬ (cS a.f5 b.f5 ≠ 0) from fun h => h ((cS_eq _ _).2 h3))]
        by_cases h4 : a.f3 = b.f3
        · rw [if_pos h4, if_neg (show ¬ (a.f3 ≠ b.f3) from fun h => h h4)]; simp [cN_lt]
        · rw [if_neg h4, if_pos (show a.f3 ≠ b.f3 from h4)]; simp [cN_lt]
      · rw [if_neg (fun h => h3 ((tl_eq _ _).1 h)), if_pos (show cS a.f5 b.f5 ≠ 0 from fun h => h3 ((cS_eq _ _).1 h)), ahead_is _ _ ha k hk, Option.bind_some]
    · rw [if_neg h2, if_pos (show a.f2 ≠ b.f2 from h2)]; simp [cN_lt]
theorem less_c (a b : Rc) (ha : a.f5.size < 4611686018427387904) (w : World) : Calls Try.prog 25 #[.agg (eRc a).toArray, .agg (eRc b).toArray] w fun e w' => e = .returned (.bool (decide (recF a b < 0))) ∧ Below w.heap.size w w' :=
  tattlerref06_Less.calls (2 * a.f5.size + 2) a.f0 a.f1.f0 a.f1.f1 a.f1.f2 a.f2 a.f3 a.f4 a.f5 b.f0 b.f1.f0 b.f1.f1 b.f1.f2 b.f2 b.f3 b.f4 b.f5 _ w (less_is a b ha _ (by omega))
end Go.Proofs.Ytmpodcefngpnkaa
