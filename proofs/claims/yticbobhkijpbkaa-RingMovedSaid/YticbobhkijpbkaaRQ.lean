import Derived.Test.YticbobhkijpbkaaRP
namespace Go.Proofs.Yticbobhkijpbkaa
open Go.RowKit Go.Tat Go.Proofs.YticbobhkijpbkaaW.PrintWords PRingOwners
/-! ### The keys with other owners -/
theorem flStr : Flat Kd.string (fun s : ByteArray => [Value.string s]) := ⟨rfl, Iff.rfl, Iff.rfl⟩
def moves (b a : List Int) (key : ByteArray) : Bool := decide (sort2 (own key b) ≠ sort2 (own key a))
def movedL (keys : List ByteArray) (b a : List Int) : List ByteArray := keys.filter (moves b a)
theorem sort2_mem (l : List Int) (x : Int) : x ∈ sort2 l ↔ x ∈ l := by
  match l with
  | [] => exact Iff.rfl
  | [_] => exact Iff.rfl
  | [u, v] =>
    show x ∈ (if v < u then [v, u] else [u, v]) ↔ _
    split
    · simp [or_comm]
    · exact Iff.rfl
  | _ :: _ :: _ :: _ => exact Iff.rfl
theorem sort2_len (l : List Int) : (sort2 l).length = l.length := by
  match l with
  | [] => rfl
  | [_] => rfl
  | [u, v] =>
    show (if v < u then [v, u] else [u, v]).length = _
    split <;> rfl
  | _ :: _ :: _ :: _ => rfl
theorem sort2_eq {A B : List Int} (hA : A.length ≤ 2) (hB : B.length ≤ 2) (nA : A.Nodup) (nB : B.Nodup) : sort2 A = sort2 B ↔ (A.length = B.length ∧ A.all (fun x => decide (x ∈ B)) = true) := by
  constructor
  · intro h
    refine ⟨by rw [← sort2_len A, h, sort2_len], ?_⟩
    rw [List.all_eq_true]
    intro x hx
    rw [decide_eq_true_iff, ← sort2_mem, ← h, sort2_mem]
    exact hx
  · rintro ⟨hl, h⟩
    rw [List.all_eq_true] at h
    match A, B, hA, hB, hl with
    | [], [], _, _, _ => rfl
    | [x], [y], _, _, _ =>
      have := h x (by simp)
      simp at this
      rw [this]
    | [x, y], [u, v], _, _, _ =>
      have h1 := h x (by simp)
      have h2 := h y (by simp)
      simp only [decide_eq_true_iff, List.mem_cons, List.not_mem_nil, or_false] at h1 h2
      simp only [List.nodup_cons, List.mem_cons, List.not_mem_nil, or_false] at nA nB
      unfold sort2
      rcases h1 with rfl | rfl <;> rcases h2 with rfl | rfl
      · exact absurd rfl nA.1
      · rfl
      · simp only
        split <;> split
        · omega
        · rfl
        · rfl
        · have : y = x := by omega
          rw [this]
      · exact absurd rfl nA.1
theorem rdOf_get (l : List ByteArray) (i : Nat) (h : i < l.length) : rdOf ByteArray.empty l (i : Int) = l[i] := by
  unfold rdOf
  simp [h]
theorem l1_is (keys : List ByteArray) (b a : List Int) (out : List ByteArray) (x8 x15 x16 : Int) (A Bl : List Int) (hA : A.length < 4611686018427387904) (hB : Bl.length ≤ 2) (h8 : 0 ≤ x8) (h8' : x8 < (keys.length : Int)) (ho : out.length < 8796093022208) :
    ∀ d i k x11, i + d = A.length → 2 < k → tattlerref16_Moved.l1 (k + d + 1) keys b a out x8 A Bl x11 x15 x16 (A.length : Int) (i : Int) = tattlerref16_Moved.l0 k keys b a (if (x11 && (A.drop i).all fun x => decide (x ∈ Bl)) = true then out else out ++ [rdOf ByteArray.empty keys x8]) x15 (wrap64 (x16 + 1))
  | 0, i, k, x11, h, _ => by
    have h1 : ¬ (i : Int) < (A.length : Int) := by omega
    rw [tattlerref16_Moved.l1, if_neg h1, List.drop_eq_nil_of_le (by omega)]
    cases x11 with
    | true => simp
    | false => simp [h8, h8', ho]
  | d + 1, i, k, x11, h, hk => by
    have h1 : (i : Int) < (A.length : Int) := by omega
    have h2 : (0 : Int) ≤ (i : Int) := by omega
    have h4 : i < A.length := by omega
    have e1 : k + (d + 1) + 1 = (k + d + 1) + 1 := by omega
    rw [e1, tattlerref16_Moved.l1, if_pos h1, if_pos h2, if_pos h1, rd_get A i h4, in_is Bl _ (by omega) (k + d + 1) (by omega), Option.bind_some, wrap64_succ h4 hA]
    have e2 : ((A.drop i).all fun x => decide (x ∈ Bl)) = (decide (A[i] ∈ Bl) && (A.drop (i + 1)).all fun x => decide (x ∈ Bl)) := by rw [List.drop_eq_getElem_cons h4, List.all_cons]
    rw [e2]
    by_cases e : A[i] ∈ Bl
    · rw [decide_eq_true e, if_pos rfl, l1_is keys b a out x8 x15 x16 A Bl hA hB h8 h8' ho d (i + 1) k x11 (by omega) hk, Bool.true_and]
    · rw [decide_eq_false e, if_neg (by decide), l1_is keys b a out x8 x15 x16 A Bl hA hB h8 h8' ho d (i + 1) k false (by omega) hk, Bool.false_and, Bool.and_false]
theorem moved_l0 (keys : List ByteArray) (b a : List Int) (hk : keys.length ≤ 50) (hs : ∀ s ∈ keys, s.size ≤ 1000000 ∧ b.length ≤ 1000000 ∧ a.length ≤ 1000000) (hb0 : ∀ x ∈ b, 0 ≤ x ∧ x < 256) (ha0 : ∀ x ∈ a, 0 ≤ x ∧ x < 256) (B : Nat) (hB : 2000310 < B) (d : Nat) :
    ∀ (i : Nat) (out : List ByteArray) (k : Nat), i + d = keys.length → out.length ≤ i → 4 * d + B < k → tattlerref16_Moved.l0 k keys b a out (keys.length : Int) (i : Int) = some (out ++ movedL (keys.drop i) b a) := by
  induction d with
  | zero =>
    intro i out k h ho hk
    obtain ⟨k, rfl⟩ : ∃ k', k = k' + 1 := ⟨k - 1, by omega⟩
    have h1 : ¬ (i : Int) < (keys.length : Int) := by omega
    rw [tattlerref16_Moved.l0, if_neg h1, List.drop_eq_nil_of_le (by omega)]
    simp [movedL]
  | succ d ih =>
    intro i out k h ho hk
    obtain ⟨k, rfl⟩ : ∃ k', k = k' + 1 := ⟨k - 1, by omega⟩
    have h1 : (i : Int) < (keys.length : Int) := by omega
    have h2 : (0 : Int) ≤ (i : Int) := by omega
    have h4 : i < keys.length := by omega
    obtain ⟨hsz, hb, ha⟩ := hs keys[i] (List.getElem_mem h4)
    have l1 := own_len keys[i] b
    have l2 := own_len keys[i] a
    rw [tattlerref16_Moved.l0, if_pos h1, if_pos h2, if_pos h1, rdOf_get keys i h4, rowners_is _ hsz b hb hb0 k (by omega), Option.bind_some, rowners_is _ hsz a ha ha0 k (by omega), Option.bind_some]
    obtain ⟨k', hk'⟩ : ∃ k', k = k' + (own keys[i] b).length + 1 := ⟨k - (own keys[i] b).length - 1, by omega⟩
    have e0 := l1_is keys b a out (i : Int) (keys.length : Int) (i : Int) (own keys[i] b) (own keys[i] a) (by omega) l2 h2 h1 (by omega) (own keys[i] b).length 0 k' (((own keys[i] b).length : Int) == ((own keys[i] a).length : Int)) (by omega) (by omega)
    have e1 : ((0 : Nat) : Int) = 0 := rfl
    rw [e1] at e0
    rw [hk', e0, wrap64_succ h4 (by omega), List.drop_zero]
    have nd := fun l => (srt_nodup keys[i] l)
    have n1 : (own keys[i] b).Nodup := (List.take_sublist _ _).nodup (nd b)
    have n2 : (own keys[i] a).Nodup := (List.take_sublist _ _).nodup (nd a)
    have hm : ((((own keys[i] b).length : Int) == ((own keys[i] a).length : Int)) && (own keys[i] b).all fun x => decide (x ∈ own keys[i] a)) = !moves b a keys[i] := by
      unfold moves
      rw [Bool.eq_iff_iff]
      have := sort2_eq l1 l2 n1 n2
      simp only [Bool.and_eq_true, beq_iff_eq, Bool.not_eq_true', decide_eq_false_iff_not, ne_eq, Decidable.not_not]
      rw [this]
      exact ⟨fun h => ⟨by have := h.1; omega, h.2⟩, fun h => ⟨by have := h.1; omega, h.2⟩⟩
    have e3 : movedL (keys.drop i) b a = (if moves b a keys[i] = true then [keys[i]] else []) ++ movedL (keys.drop (i + 1)) b a := by
      unfold movedL
      rw [List.drop_eq_getElem_cons h4, List.filter_cons]
      split <;> rfl
    rw [hm, e3]
    cases hmv : moves b a keys[i] with
    | true =>
      rw [if_neg (by simp), if_pos rfl, rdOf_get keys i h4, ih (i + 1) (out ++ [keys[i]]) k' (by omega) (by rw [List.length_append]; simp; omega) (by omega), List.append_assoc]
    | false =>
      rw [if_pos (by simp), if_neg (by simp), ih (i + 1) out k' (by omega) (by omega) (by omega)]
      rfl
theorem rmoved_is (keys : List ByteArray) (b a : List Int) (hk : keys.length ≤ 50) (hs : ∀ s ∈ keys, s.size ≤ 1000000 ∧ b.length ≤ 1000000 ∧ a.length ≤ 1000000) (hb0 : ∀ x ∈ b, 0 ≤ x ∧ x < 256) (ha0 : ∀ x ∈ a, 0 ≤ x ∧ x < 256) : tattlerref16_Moved.f 2000600 keys b a = some (movedL keys b a) := by
  have := moved_l0 keys b a hk hs hb0 ha0 2000311 (by omega) keys.length 0 [] 2000600 (by omega) (Nat.le_refl _) (by omega)
  exact this
theorem equal_l (l0 l1 : List Int) (he : l0.length = l1.length) (hl : l0.length < 4611686018427387904) : ∀ d i k, i + d = l0.length → d < k → slices_Equal_uint8_uint8.l0 k l0 l1 (l0.length : Int) (i : Int) = some (decide (l0.drop i = l1.drop i))
  | 0, i, k + 1, h, _ => by
    have h1 : ¬ (i : Int) < (l0.length : Int) := by omega
    rw [slices_Equal_uint8_uint8.l0, if_neg h1, List.drop_eq_nil_of_le (by omega), List.drop_eq_nil_of_le (by omega)]
    rfl
  | d + 1, i, k + 1, h, hk => by
    have h1 : (i : Int) < (l0.length : Int) := by omega
    have h2 : (0 : Int) ≤ (i : Int) := by omega
    have h3 : (i : Int) < (l1.length : Int) := by omega
    have h4 : i < l0.length := by omega
    have h5 : i < l1.length := by omega
    have e2 : (l0.drop i = l1.drop i) ↔ (l0[i] = l1[i] ∧ l0.drop (i + 1) = l1.drop (i + 1)) := by rw [List.drop_eq_getElem_cons h4, List.drop_eq_getElem_cons h5, List.cons.injEq]
    rw [slices_Equal_uint8_uint8.l0, if_pos h1, if_pos h2, if_pos h1, if_pos h3, rd_get l0 i h4, rd_get l1 i h5, wrap64_succ h4 hl, (decide_eq_decide.2 e2 : decide (l0.drop i = l1.drop i) = decide (l0[i] = l1[i] ∧ l0.drop (i + 1) = l1.drop (i + 1)))]
    by_cases e : l0[i] = l1[i]
    · rw [if_pos e, equal_l l0 l1 he hl d (i + 1) k (by omega) (by omega)]
      simp only [e, true_and]
    · rw [if_neg e]
      simp only [e, false_and, decide_false]
theorem equal_is (l0 l1 : List Int) (hl : l0.length < 4611686018427387904) : slices_Equal_uint8_uint8.f (l0.length + 1) l0 l1 = some (decide (l0 = l1)) := by
  unfold slices_Equal_uint8_uint8.f
  by_cases he : l0.length = l1.length
  · rw [if_pos (by omega)]
    have := equal_l l0 l1 he hl l0.length 0 (l0.length + 1) (by omega) (by omega)
    simpa using this
  · rw [if_neg (by omega)]
    have : l0 ≠ l1 := fun e => he (by rw [e])
    simp [this]
theorem equal_c (l0 l1 : List Int) (A0 A1 : Option Addr) (c0 c1 : Nat) (w : World) (h0 : (Kd.int .u8).C w A0 l0.length l0) (hc0 : l0.length ≤ c0) (h1 : (Kd.int .u8).C w A1 l1.length l1) (hc1 : l1.length ≤ c1) (hl : l0.length < 4611686018427387904) :
    Calls Try.prog 34 #[.slice A0 l0.length c0, .slice A1 l1.length c1] w fun e w' => e = .returned (.bool (decide (l0 = l1))) ∧ Drawn0 w w' :=
  slices_Equal_uint8_uint8.calls _ A0 c0 l0 A1 c1 l1 _ w h0 hc0 h1 hc1 (equal_is l0 l1 hl)
theorem same10_l (l : List ByteArray) (hl : l.length < 4611686018427387904) : ∀ d i k, i + d = l.length → d < k → tattlerref10_Same.l0 k l l (l.length : Int) (i : Int) = some true
  | 0, i, k + 1, h, _ => by
    have h1 : ¬ (i : Int) < (l.length : Int) := by omega
    rw [tattlerref10_Same.l0, if_neg h1]
  | d + 1, i, k + 1, h, hk => by
    have h1 : (i : Int) < (l.length : Int) := by omega
    have h2 : (0 : Int) ≤ (i : Int) := by omega
    rw [tattlerref10_Same.l0, if_pos h1, if_pos h2, if_pos h1, if_pos h1, if_pos rfl, wrap64_succ (by omega) hl]
    exact same10_l l hl d (i + 1) k (by omega) (by omega)
theorem same10_is (l : List ByteArray) (hl : l.length < 4611686018427387904) : tattlerref10_Same.f (l.length + 1) l l = some true := by
  unfold tattlerref10_Same.f
  rw [if_pos rfl]
  exact same10_l l hl l.length 0 _ (by omega) (by omega)
theorem movedL_same (keys : List ByteArray) (b : List Int) : movedL keys b b = [] := by
  unfold movedL
  rw [List.filter_eq_nil_iff]
  intro k _
  simp [moves]
theorem movedL_succ {keys : List ByteArray} {b a : List Int} {j : Nat} {x : ByteArray} (h : keys[j]? = some x) : movedL (keys.take (j + 1)) b a = if moves b a x = true then movedL (keys.take j) b a ++ [x] else movedL (keys.take j) b a := by
  obtain ⟨hl, he⟩ := List.getElem?_eq_some_iff.1 h
  unfold movedL
  rw [← List.take_append_getElem hl, List.filter_append, he]
  by_cases e : moves b a x = true
  · simp [e]
  · simp [e]
end Go.Proofs.Yticbobhkijpbkaa
