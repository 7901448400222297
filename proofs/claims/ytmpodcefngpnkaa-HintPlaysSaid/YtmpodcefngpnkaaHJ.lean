/- Hints: Ack and Add whole; what stays true. -/
import Derived.Test.YtmpodcefngpnkaaHFg
import Derived.Test.YtmpodcefngpnkaaHI
import Derived.Test.YtmpodcefngpnkaaHK
namespace Go.Proofs.Ytmpodcefngpnkaa
open Go.RowKit Go.Tat Go.Proofs.YtmpodcefngpnkaaW.PrintWords PHintPlays
theorem set_same {α : Type} {A : List α} {i : Nat} {a : α} (h : A[i]? = some a) : A.set i a = A := by
  obtain ⟨hl, rfl⟩ := List.getElem?_eq_some_iff.1 h
  exact List.set_getElem_self hl
theorem ack_st {F : Nat → Prop} {w0 w : World} {A : List Asr} (h : St F w0 w A) (i : Nat) {g : Nat} {S : Nat → Prop} {most : Int} {l : List Hn} (hi : A[i]? = some (hO g S most l)) (hs : SortedH l) (hl : l.length ≤ 1000000) (key : ByteArray) (s : Stp) (n : Int) (hn : 0 ≤ n ∧ n < 64) :
    Calls Try.prog 11 #[.pointer (some ⟨g, 0, none⟩), .string key, .agg (eStp s).toArray, .int .u8 n] w (ackPost F w0 A i g most (ackL l key s n) (ackB l key s n)) := by
  cases ht : thereH l key with
  | true =>
    obtain ⟨x, hx, _⟩ := thereH_get ht
    by_cases hc : 0 < hlcF x.f0.f1 s
    · exact ack_gt h i hi hs hl key s n hn ht (fun y hy => by rw [hx] at hy; cases hy; exact hc)
    · exact ack_le h i hi hs hl key s n hn ht (fun y hy => by rw [hx] at hy; cases hy; omega)
  | false =>
    refine (ack_none h i hi hs hl key s n hn.2 ht).mono ?_
    rintro e w' ⟨rfl, b⟩
    have hB : ackB l key s n = false := by
      unfold thereH at ht
      unfold ackB
      cases hx : l[posH l key]? with
      | none => rfl
      | some x => rw [hx] at ht; simp only [] at ht ⊢; rw [ht]; rfl
    have hL : ackL l key s n = l := by unfold ackL; rw [hB]; rfl
    rw [hB, hL]
    exact ⟨rfl, S, by rw [set_same hi]; exact h.below b⟩
/-- What Add answers, and what is left. -/
def addP (most : Int) (l : List Hn) (r : Rc) : List Hn × Int :=
  if mayB r = false ∨ r.f2 = 3 then (l, 1)
  else if thereH l r.f0 then (match l[posH l r.f0]? with | some x => if recF r x.f0 ≤ 0 then (l, 0) else (l.set (posH l r.f0) ⟨r, 0⟩, 0) | none => (l, 0))
  else if (l.length : Int) = most then (l, 6) else (l.take (posH l r.f0) ++ ⟨r, 0⟩ :: l.drop (posH l r.f0), 0)
theorem add_st {F : Nat → Prop} {w0 w : World} {A : List Asr} (h : St F w0 w A) (i : Nat) {g : Nat} {S : Nat → Prop} {most : Int} {l : List Hn} (hi : A[i]? = some (hO g S most l)) (hs : SortedH l) (hl : l.length ≤ 1000000) (r : Rc) (hk : r.f0.size < 4611686018427387904) :
    Calls Try.prog 12 #[.pointer (some ⟨g, 0, none⟩), .agg (eRc r).toArray] w (addPost F w0 A i g most (addP most l r).1 (addP most l r).2) := by
  by_cases ha : mayB r = false ∨ r.f2 = 3
  · have e : addP most l r = (l, 1) := by unfold addP; rw [if_pos ha]
    rw [e]
    refine (add_arg g r hk ha w).mono ?_
    rintro e w' ⟨rfl, b⟩
    exact ⟨rfl, S, by rw [set_same hi]; exact h.below b⟩
  · have hm : mayB r = true := by cases hb : mayB r with | true => rfl | false => exact absurd (.inl hb) ha
    have h3 : r.f2 ≠ 3 := fun e => ha (.inr e)
    cases ht : thereH l r.f0 with
    | true =>
      obtain ⟨x, hx, _⟩ := thereH_get ht
      by_cases hc : recF r x.f0 ≤ 0
      · have e : addP most l r = (l, 0) := by unfold addP; rw [if_neg ha, if_pos ht, hx]; simp [hc]
        rw [e]
        exact add_old h i hi hs hl r hk hm h3 ht (fun y hy => by rw [hx] at hy; cases hy; exact hc)
      · have e : addP most l r = (l.set (posH l r.f0) ⟨r, 0⟩, 0) := by unfold addP; rw [if_neg ha, if_pos ht, hx]; simp [hc]
        rw [e]
        exact add_new h i hi hs hl r hk hm h3 ht (fun y hy => by rw [hx] at hy; cases hy; exact hc)
    | false =>
      by_cases hf : (l.length : Int) = most
      · have e : addP most l r = (l, 6) := by unfold addP; rw [if_neg ha, ht, if_neg (by decide), if_pos hf]
        rw [e]
        exact add_full h i hi hs hl r hk hm h3 ht hf
      · have e : addP most l r = (l.take (posH l r.f0) ++ ⟨r, 0⟩ :: l.drop (posH l r.f0), 0) := by unfold addP; rw [if_neg ha, ht, if_neg (by decide), if_neg hf]
        rw [e]
        exact add_ins h i hi hs hl r hk hm h3 ht hf
/-! ### What stays true -/
structure GoodM (x : Hn) : Prop where
  may : mayB x.f0 = true
  kind : x.f0.f2 ≠ 3
  bits : 0 ≤ x.f1 ∧ x.f1 < 18446744073709551616
theorem mayB_key {r : Rc} (h : mayB r = true) : r.f0.size ≤ 250 := by
  unfold mayB keyB at h
  simp only [Bool.and_eq_true, decide_eq_true_eq] at h
  omega
theorem GoodM.h {x : Hn} (g : GoodM x) : GoodH x := ⟨by have := mayB_key g.may; omega, g.bits⟩
structure HInv (most : Int) (l : List Hn) : Prop where
  srt : SortedH l
  good : ∀ x ∈ l, GoodM x
  len : (l.length : Int) ≤ most
theorem sortedH_map {l : List Hn} : SortedH l ↔ (l.map fun x => x.f0.f0).Pairwise fun a b => cS a b < 0 := by unfold SortedH; rw [List.pairwise_map]
theorem set_keys {l : List Hn} {k : Nat} {x y : Hn} (hx : l[k]? = some x) (h : y.f0.f0 = x.f0.f0) : (l.set k y).map (fun x => x.f0.f0) = l.map fun x => x.f0.f0 := by
  rw [List.map_set, h]
  exact set_same (by rw [List.getElem?_map, hx]; rfl)
theorem or_range (a b : Int) (h : 0 ≤ a ∧ a < 18446744073709551616) (h' : 0 ≤ b ∧ b < 18446744073709551616) : 0 ≤ bits .or .u64 a b ∧ bits .or .u64 a b < 18446744073709551616 := by
  rw [_root_.Go.u64_or a b h.1 h.2 h'.1 h'.2]
  have := @Nat.or_lt_two_pow a.toNat b.toNat 64 (by omega) (by omega)
  omega
theorem wrap_range (b : Int) : 0 ≤ IntKind.u64.wrap b ∧ IntKind.u64.wrap b < 18446744073709551616 := by
  rw [IntKind.wrap_u64]
  omega
theorem HInv.set {most : Int} {l : List Hn} (h : HInv most l) {k : Nat} {x y : Hn} (hx : l[k]? = some x) (hk : y.f0.f0 = x.f0.f0) (g : GoodM y) : HInv most (l.set k y) :=
  ⟨sortedH_map.2 (by rw [set_keys hx hk]; exact sortedH_map.1 h.srt), fun z hz => by
    rcases List.mem_or_eq_of_mem_set hz with h1 | rfl
    · exact h.good z h1
    · exact g, by rw [List.length_set]; exact h.len⟩
theorem ackX_good {x : Hn} (g : GoodM x) (n : Int) : GoodM (ackX x n) := ⟨g.may, g.kind, or_range _ _ g.bits (wrap_range _)⟩
theorem HInv.ack {most : Int} {l : List Hn} (h : HInv most l) (key : ByteArray) (s : Stp) (n : Int) : HInv most (ackL l key s n) := by
  unfold ackL
  split
  · split
    · rename_i x hx
      exact h.set hx rfl (ackX_good (h.good x (List.mem_of_getElem? hx)) n)
    · exact h
  · exact h
theorem posH_low {l : List Hn} {key : ByteArray} {x : Hn} (h : x ∈ l.take (posH l key)) : cS x.f0.f0 key < 0 := by
  unfold posH at h
  rw [← List.prefix_iff_eq_take.1 (List.takeWhile_prefix _)] at h
  have := List.all_takeWhile (l := l) (p := fun x => decide (cS x.f0.f0 key < 0))
  rw [List.all_eq_true] at this
  simpa using this x h
theorem posH_high {l : List Hn} {key : ByteArray} (hs : SortedH l) (ht : thereH l key = false) {x : Hn} (h : x ∈ l.drop (posH l key)) : cS key x.f0.f0 < 0 := by
  obtain ⟨j, hj⟩ := List.getElem?_of_mem h
  rw [List.getElem?_drop] at hj
  have hlen : posH l key < l.length := by have := (List.getElem?_eq_some_iff.1 hj).1; omega
  obtain ⟨y, hy⟩ : ∃ y, l[posH l key]? = some y := ⟨_, List.getElem?_eq_getElem hlen⟩
  have h1 := thereH_at hy
  rw [ht] at h1
  have h2 : ¬ cS y.f0.f0 key < 0 := by
    have e : l.dropWhile (fun x => decide (cS x.f0.f0 key < 0)) = l.drop (posH l key) := by
      unfold posH
      conv => rhs; rw [← List.takeWhile_append_dropWhile (p := fun x => decide (cS x.f0.f0 key < 0)) (l := l)]
      rw [List.drop_left' (by simp)]
    have h3 : (l.dropWhile (fun x => decide (cS x.f0.f0 key < 0)))[0]? = some y := by rw [e, List.getElem?_drop]; exact hy
    have h4 := List.head?_dropWhile_not (fun x => decide (cS x.f0.f0 key < 0)) l
    rw [List.head?_eq_getElem?, h3] at h4
    simpa using h4
  have h5 : cS key y.f0.f0 < 0 := by
    have := cS_neg y.f0.f0 key
    have h6 : ¬ cS y.f0.f0 key = 0 := by simpa using h1
    omega
  rcases Nat.eq_zero_or_pos j with e | e
  · subst e
    rw [Nat.add_zero, hy] at hj
    cases hj; exact h5
  · exact cS_trans h5 (sorted_lt hs hy hj (by omega))
theorem HInv.add {most : Int} {l : List Hn} (h : HInv most l) (r : Rc) : HInv most (addP most l r).1 := by
  unfold addP
  split
  · exact h
  · rename_i ha
    have hm : mayB r = true := by cases hb : mayB r with | true => rfl | false => exact absurd (.inl hb) ha
    have g : GoodM ⟨r, 0⟩ := ⟨hm, fun e => ha (.inr e), by show (0 : Int) ≤ 0 ∧ (0 : Int) < 18446744073709551616; decide⟩
    split
    · rename_i ht
      obtain ⟨x, hx, hk⟩ := thereH_get ht
      rw [hx]
      simp only []
      split
      · exact h
      · exact h.set hx hk.symm g
    · rename_i ht
      have ht' : thereH l r.f0 = false := by simpa using ht
      split
      · exact h
      · rename_i hf
        have hlow := fun x => @posH_low l r.f0 x
        have hhigh := fun x => @posH_high l r.f0 h.srt ht' x
        have hsp := h.srt
        have e : l = l.take (posH l r.f0) ++ l.drop (posH l r.f0) := (List.take_append_drop _ _).symm
        have hmem : ∀ x, x ∈ l.take (posH l r.f0) ++ l.drop (posH l r.f0) ↔ x ∈ l := fun x => by rw [← e]
        refine ⟨?_, ?_, ?_⟩
        · unfold SortedH at hsp ⊢
          rw [e, List.pairwise_append] at hsp
          rw [List.pairwise_append, List.pairwise_cons]
          refine ⟨hsp.1, ⟨fun x hx => hhigh x hx, hsp.2.1⟩, fun a ha b hb => ?_⟩
          rcases List.mem_cons.1 hb with rfl | hb
          · exact hlow a ha
          · exact hsp.2.2 a ha b hb
        · intro x hx
          rcases List.mem_append.1 hx with hx | hx
          · exact h.good x ((hmem x).1 (List.mem_append_left _ hx))
          · rcases List.mem_cons.1 hx with rfl | hx
            · exact g
            · exact h.good x ((hmem x).1 (List.mem_append_right _ hx))
        · have hl := h.len
          have hp := posH_le l r.f0
          rw [List.length_append, List.length_cons, List.length_take, List.length_drop]
          omega
theorem HInv.settle {most : Int} {l : List Hn} (h : HInv most l) (up : List Int) : HInv most (setL up l) :=
  ⟨h.srt.sublist List.filter_sublist, fun x hx => h.good x (List.mem_filter.1 hx).1, by
    have := List.length_filter_le (fun x => !setP up x) l
    have := h.len
    unfold setL
    omega⟩
theorem HInv.nil (most : Int) (h : 0 ≤ most) : HInv most [] := ⟨List.Pairwise.nil, by simp, h⟩
end Go.Proofs.Ytmpodcefngpnkaa
