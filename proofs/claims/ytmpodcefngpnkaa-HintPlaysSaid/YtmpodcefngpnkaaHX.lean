/- HintKept. -/
import Derived.Test.YtmpodcefngpnkaaHT
set_option linter.unusedVariables false
set_option linter.unusedSimpArgs false
namespace Go.Proofs.Ytmpodcefngpnkaa
open Go.RowKit Go.Tat Go.Proofs.YtmpodcefngpnkaaW.PrintWords PHintPlays
theorem hlcF_neg (a b : Stp) : hlcF b a = - hlcF a b := by
  unfold hlcF
  by_cases h0 : a.f0 = b.f0
  · rw [if_pos h0, if_pos h0.symm]
    by_cases h1 : a.f1 = b.f1
    · rw [if_pos h1, if_pos h1.symm]; exact cN_neg _ _
    · rw [if_neg h1, if_neg (fun e => h1 e.symm)]; exact cN_neg _ _
  · rw [if_neg h0, if_neg (fun e => h0 e.symm)]; exact cN_neg _ _
theorem recF_neg (a b : Rc) : recF b a = - recF a b := by
  unfold recF
  have h1 := hlcF_neg a.f1 b.f1
  have h2 := cS_neg a.f5 b.f5
  by_cases e1 : hlcF a.f1 b.f1 = 0
  · rw [if_neg (show ¬ (hlcF b.f1 a.f1 ≠ 0) by omega), if_neg (show ¬ (hlcF a.f1 b.f1 ≠ 0) by omega)]
    by_cases e2 : a.f2 = b.f2
    · rw [if_neg (show ¬ (b.f2 ≠ a.f2) from fun h => h e2.symm), if_neg (show ¬ (a.f2 ≠ b.f2) from fun h => h e2)]
      by_cases e3 : cS a.f5 b.f5 = 0
      · rw [if_neg (show ¬ (cS b.f5 a.f5 ≠ 0) by omega), if_neg (show ¬ (cS a.f5 b.f5 ≠ 0) by omega)]
        by_cases e4 : a.f3 = b.f3
        · rw [if_neg (show ¬ (b.f3 ≠ a.f3) from fun h => h e4.symm), if_neg (show ¬ (a.f3 ≠ b.f3) from fun h => h e4)]; exact cN_neg _ _
        · rw [if_pos (show b.f3 ≠ a.f3 from fun e => e4 e.symm), if_pos (show a.f3 ≠ b.f3 from e4)]; exact cN_neg _ _
      · rw [if_pos (show cS b.f5 a.f5 ≠ 0 by omega), if_pos (show cS a.f5 b.f5 ≠ 0 from e3)]; exact h2
    · rw [if_pos (show b.f2 ≠ a.f2 from fun e => e2 e.symm), if_pos (show a.f2 ≠ b.f2 from e2)]; exact cN_neg _ _
  · rw [if_pos (show hlcF b.f1 a.f1 ≠ 0 by omega), if_pos (show hlcF a.f1 b.f1 ≠ 0 from e1)]; exact h1
/-- Are two records the same? As Go compares them. -/
def recB (a b : Rc) : Bool := (a.f0.toList == b.f0.toList && ((a.f1.f0 == b.f1.f0 && (a.f1.f1 == b.f1.f1 && (a.f1.f2 == b.f1.f2))) && (a.f2 == b.f2 && (a.f3 == b.f3 && (a.f4 == b.f4 && (a.f5.toList == b.f5.toList))))))
theorem recB_iff (a b : Rc) : recB a b = true ↔ a = b := by
  obtain ⟨a0, ⟨a1, a2, a3⟩, a4, a5, a6, a7⟩ := a
  obtain ⟨b0, ⟨b1, b2, b3⟩, b4, b5, b6, b7⟩ := b
  unfold recB
  simp only [Bool.and_eq_true, beq_iff_eq, tl_eq, S35.mk.injEq, S33.mk.injEq]
/-- Is it noted that a node has it? -/
def ac (M : List (Int × Bool)) (m : Int) : Bool := (mget M m).getD false
theorem ac_nil (m : Int) : ac [] m = false := rfl
theorem ac_put (M : List (Int × Bool)) (n m : Int) : ac (mput M n true) m = (ac M m || decide (m = n)) := by
  unfold ac
  rw [mget_mput]
  by_cases h : m = n
  · rw [if_pos h]; simp [h]
  · rw [if_neg h]; simp [h]
/-- The record is still there; who has it is noted. -/
def Kp (r : Rc) (l : List Hn) (M : List (Int × Bool)) : Prop := ∃ x ∈ l, x.f0 = r ∧ ∀ m : Int, 0 ≤ m → m < 64 → bitM x.f1 m = true → ac M m = true
theorem Kp.same {r : Rc} {l : List Hn} {M : List (Int × Bool)} (hI : HInv 64 l) (h : Kp r l M) {o : Rc} (hk : o.f0 = r.f0) (hl : ¬ recF r o < 0 ∨ (addP 64 l o).2 ≠ 0) : (addP 64 l o).1 = l := by
  obtain ⟨x, hx, e, _⟩ := h
  obtain ⟨i, hi⟩ := List.getElem?_of_mem hx
  have hp : posH l o.f0 = i := by rw [hk, ← e]; exact posH_of hI.srt hi
  have ht : thereH l o.f0 = true := by
    rw [thereH_at (x := x) (by rw [hp]; exact hi), e, hk]
    simp [cS_self]
  unfold addP at hl ⊢
  by_cases ha : mayB o = false ∨ o.f2 = 3
  · rw [if_pos ha]
  · rw [if_neg ha, if_pos ht, hp, hi] at hl ⊢
    simp only [] at hl ⊢
    have hn := recF_neg r o
    by_cases hc : recF o x.f0 ≤ 0
    · rw [if_pos hc]
    · rw [if_neg hc] at hl
      rw [e] at hc
      rcases hl with hl | hl
      · omega
      · exact absurd rfl hl
theorem Kp.other {r : Rc} {l : List Hn} {M : List (Int × Bool)} (h : Kp r l M) {o : Rc} (hk : o.f0 ≠ r.f0) : Kp r (addP 64 l o).1 M := by
  obtain ⟨x, hx, e, hb⟩ := h
  refine ⟨x, ?_, e, hb⟩
  unfold addP
  by_cases ha : mayB o = false ∨ o.f2 = 3
  · rw [if_pos ha]; exact hx
  · rw [if_neg ha]
    split
    · rename_i ht
      obtain ⟨y, hy, hyk⟩ := thereH_get ht
      rw [hy]
      simp only []
      split
      · exact hx
      · obtain ⟨i, hi⟩ := List.getElem?_of_mem hx
        have hne : posH l o.f0 ≠ i := by
          intro he
          rw [he, hi] at hy
          cases hy
          exact hk (by rw [← hyk, e])
        exact List.mem_of_getElem? (i := i) (by rw [List.getElem?_set_ne hne]; exact hi)
    · split
      · exact hx
      · show x ∈ l.take (posH l o.f0) ++ ⟨o, 0⟩ :: l.drop (posH l o.f0)
        have hm : x ∈ l.take (posH l o.f0) ++ l.drop (posH l o.f0) := by rw [List.take_append_drop]; exact hx
        rcases List.mem_append.1 hm with h1 | h1
        · exact List.mem_append_left _ h1
        · exact List.mem_append_right _ (List.mem_cons_of_mem _ h1)
theorem Kp.more {r : Rc} {l : List Hn} {M : List (Int × Bool)} (h : Kp r l M) (n : Int) : Kp r l (mput M n true) := by
  obtain ⟨x, hx, e, hb⟩ := h
  exact ⟨x, hx, e, fun m h0 h1 h2 => by rw [ac_put, hb m h0 h1 h2]; rfl⟩
theorem Kp.ack {r : Rc} {l : List Hn} {M : List (Int × Bool)} (hI : HInv 64 l) (h : Kp r l M) (key : ByteArray) (s : Stp) {n : Int} (hn : 0 ≤ n ∧ n < 64) : Kp r (ackL l key s n) (if key = r.f0 ∧ ¬ hlcF s r.f1 < 0 then mput M n true else M) := by
  have hmono : ∀ l', Kp r l' M → Kp r l' (if key = r.f0 ∧ ¬ hlcF s r.f1 < 0 then mput M n true else M) := fun l' h' => by
    split
    · exact h'.more n
    · exact h'
  cases hB : ackB l key s n with
  | false =>
    have e : ackL l key s n = l := by unfold ackL; rw [hB]; rfl
    rw [e]
    exact hmono l h
  | true =>
    have hB2 := hB
    unfold ackB at hB
    cases hy : l[posH l key]? with
    | none => rw [hy] at hB; cases hB
    | some y =>
      rw [hy] at hB
      simp only [Bool.and_eq_true, decide_eq_true_eq, Bool.not_eq_true', decide_eq_false_iff_not] at hB
      have hyk := (cS_eq _ _).1 hB.1.1
      have eL : ackL l key s n = l.set (posH l key) (ackX y n) := by unfold ackL; rw [hB2, hy]; rfl
      rw [eL]
      obtain ⟨x, hx, e, hb⟩ := h
      obtain ⟨i, hi⟩ := List.getElem?_of_mem hx
      by_cases hp : posH l key = i
      · rw [hp, hi] at hy
        cases hy
        have hc : key = r.f0 ∧ ¬ hlcF s r.f1 < 0 := by
          refine ⟨by rw [← hyk, e], ?_⟩
          have h1 := hB.1.2
          rw [e] at h1
          have := hlcF_neg r.f1 s
          omega
        rw [if_pos hc]
        have hil := (List.getElem?_eq_some_iff.1 hi).1
        refine ⟨ackX _ n, List.mem_of_getElem? (i := i) (by rw [hp, List.getElem?_set_self hil]), e, fun m h0 h1 h2 => ?_⟩
        rw [ackX_bit (hI.good _ hx) hn ⟨h0, h1⟩, Bool.or_eq_true, decide_eq_true_eq] at h2
        rw [ac_put, Bool.or_eq_true, decide_eq_true_eq]
        rcases h2 with h2 | h2
        · exact .inl (hb m h0 h1 h2)
        · exact .inr h2
      · exact hmono _ ⟨x, List.mem_of_getElem? (i := i) (by rw [List.getElem?_set_ne hp]; exact hi), e, hb⟩
theorem Kp.settle {r : Rc} {l : List Hn} {M : List (Int × Bool)} (h : Kp r l M) {up : List Int} (h0 : ∀ n ∈ up, 0 ≤ n ∧ n < 256) (hn : (decide (0 < (own r.f0 up).length) && (own r.f0 up).all fun n => ac M n) = false) : Kp r (setL up l) M := by
  obtain ⟨x, hx, e, hb⟩ := h
  refine ⟨x, ?_, e, hb⟩
  unfold setL
  refine List.mem_filter.2 ⟨hx, ?_⟩
  cases hs : setP up x with
  | false => rfl
  | true =>
    unfold setP at hs
    rw [e] at hs
    simp only [Bool.and_eq_true, decide_eq_true_eq, Bool.not_eq_true', List.any_eq_false] at hs
    have h1 : (decide (0 < (own r.f0 up).length) && (own r.f0 up).all fun n => ac M n) = true := by
      rw [Bool.and_eq_true, decide_eq_true_eq, List.all_eq_true]
      refine ⟨hs.1, fun n hn => ?_⟩
      have hom := own_mem hn
      refine hb n (h0 n hom.1).1 hom.2 ?_
      have := hs.2 n hn
      simpa using this
    rw [h1] at hn
    cases hn
theorem add_first (r : Rc) : addP 64 [] r = if mayB r = false ∨ r.f2 = 3 then ([], 1) else ([⟨r, 0⟩], 0) := by
  unfold addP
  split
  · rfl
  · rfl
theorem bitM_0 (m : Int) (h : 0 ≤ m) : bitM 0 m = false := by
  rw [bitM_test 0 m (by decide) h]
  simp
theorem Kp.first (r : Rc) : Kp r [⟨r, 0⟩] [] := ⟨⟨r, 0⟩, by simp, rfl, fun m h0 _ h => by rw [bitM_0 m h0] at h; cases h⟩
theorem keys5 : KeyLaw Try.prog 5 (Value.int .u8) := KeyLaw.int Try.underlying5
theorem zero4 : (Try.prog.info? 4).map (·.zero) = some (some (.bool false)) := by kernel_rfl
theorem ac_look {w : World} {mb : Nat} {M : List (Int × Bool)} (h : MapAt w mb (Value.int .u8) Value.bool M) (m : Int) (b : Bool) (hb : ac M m = b) : (Instr.lookup 64 (.map (some mb)) (.int .u8 m) false).run Try.prog w = .ok (.bool b) w := by
  refine (h.look Try.underlying64 keys5 m _ zero4 _ rfl (.bool b) ?_).1
  rw [← hb]
  unfold ac
  cases mget M m <;> rfl
end Go.Proofs.Ytmpodcefngpnkaa
