/- Stamps' and records' order, plain. -/
import Derived.Test.YtecgnfklfgjgaaaStR
set_option linter.unusedVariables false
set_option linter.unusedSimpArgs false
namespace Go.Proofs.Ytecgnfklfgjgaaa
open Go.RowKit Go.Tat Go.Tab Go.Proofs.YtecgnfklfgjgaaaW.PrintWords PStorePeeks
/-- A comparison that orders. -/
structure Cmp3 {α : Type} (f : α → α → Int) : Prop where
  tr : ∀ a b c, f a b ≤ 0 → f b c ≤ 0 → f a c ≤ 0 ∧ (f a c = 0 → f a b = 0 ∧ f b c = 0)
  neg : ∀ a b, f b a = - f a b
def lex3 {α : Type} (f g : α → α → Int) (a b : α) : Int := if f a b ≠ 0 then f a b else g a b
theorem Cmp3.lex {α : Type} {f g : α → α → Int} (hf : Cmp3 f) (hg : Cmp3 g) : Cmp3 (lex3 f g) := by
  refine ⟨fun a b c h1 h2 => ?_, fun a b => ?_⟩
  · unfold lex3 at *
    have hab : f a b ≤ 0 := by
      by_cases h : f a b ≠ 0
      · rw [if_pos h] at h1; exact h1
      · omega
    have hbc : f b c ≤ 0 := by
      by_cases h : f b c ≠ 0
      · rw [if_pos h] at h2; exact h2
      · omega
    obtain ⟨t1, t2⟩ := hf.tr a b c hab hbc
    by_cases h : f a c ≠ 0
    · rw [if_pos h]
      exact ⟨t1, fun e => absurd e h⟩
    · have h' : f a c = 0 := by omega
      obtain ⟨e1, e2⟩ := t2 h'
      rw [if_neg h, if_neg (by omega)] 
      rw [if_neg (by omega)] at h1
      rw [if_neg (by omega)] at h2
      rw [if_neg (show ¬ f b c ≠ 0 by omega)]
      exact hg.tr a b c h1 h2
  · unfold lex3
    have h1 := hf.neg a b
    have h2 := hg.neg a b
    by_cases h : f a b ≠ 0
    · rw [if_pos h, if_pos (by omega)]; exact h1
    · rw [if_neg h, if_neg (by omega)]; exact h2
theorem Cmp3.on {α β : Type} {f : β → β → Int} (hf : Cmp3 f) (p : α → β) : Cmp3 fun a b => f (p a) (p b) := ⟨fun a b c => hf.tr _ _ _, fun a b => hf.neg _ _⟩
theorem cmp3_N : Cmp3 cN := by
  refine ⟨fun a b c h1 h2 => ?_, cN_neg⟩
  unfold cN at *
  split at h1 <;> split at h2 <;> split <;> (try split at h1) <;> (try split at h2) <;> (try split) <;> omega
theorem cmp3_S : Cmp3 cS := by
  refine ⟨fun a b c h1 h2 => ?_, cS_neg⟩
  by_cases e1 : cS a b = 0
  · rw [(cS_eq _ _).1 e1] at *
    exact ⟨h2, fun h => ⟨cS_self _, h⟩⟩
  · by_cases e2 : cS b c = 0
    · rw [← (cS_eq _ _).1 e2] at *
      exact ⟨h1, fun h => ⟨h, cS_self _⟩⟩
    · have := cS_trans (show cS a b < 0 by omega) (show cS b c < 0 by omega)
      exact ⟨by omega, fun h => by omega⟩
theorem hlcF_lex (a b : Stp) : hlcF a b = lex3 (fun a b : Stp => cN a.f0 b.f0) (lex3 (fun a b : Stp => cN a.f1 b.f1) (fun a b : Stp => cN a.f2 b.f2)) a b := by
  unfold hlcF lex3
  simp only [ne_eq, cN_eq, ite_not]
theorem cmp3_hlc : Cmp3 hlcF := by
  have : hlcF = lex3 (fun a b : Stp => cN a.f0 b.f0) (lex3 (fun a b : Stp => cN a.f1 b.f1) (fun a b : Stp => cN a.f2 b.f2)) := by funext a b; exact hlcF_lex a b
  rw [this]
  exact (cmp3_N.on S35.f0).lex ((cmp3_N.on S35.f1).lex (cmp3_N.on S35.f2))
theorem cmp3_rec : Cmp3 recF := by
  have : recF = lex3 (fun a b : Rc => hlcF a.f1 b.f1) (lex3 (fun a b : Rc => cN a.f2 b.f2) (lex3 (fun a b : Rc => cS a.f5 b.f5) (lex3 (fun a b : Rc => cN a.f3 b.f3) (fun a b : Rc => cN a.f4 b.f4)))) := by
    funext a b
    unfold recF lex3
    simp only [ne_eq, cN_eq]
  rw [this]
  exact (cmp3_hlc.on S37.f1).lex ((cmp3_N.on S37.f2).lex ((cmp3_S.on S37.f5).lex ((cmp3_N.on S37.f3).lex (cmp3_N.on S37.f4))))
theorem rec_self (a : Rc) : recF a a = 0 := by have := cmp3_rec.neg a a; omega
theorem rec_le {a b c : Rc} (h1 : recF a b ≤ 0) (h2 : recF b c ≤ 0) : recF a c ≤ 0 := (cmp3_rec.tr a b c h1 h2).1
theorem rec_hlc {a b : Rc} (h : recF a b ≤ 0) : hlcF a.f1 b.f1 ≤ 0 := by
  unfold recF at h
  by_cases e : hlcF a.f1 b.f1 ≠ 0
  · rw [if_pos e] at h; exact h
  · omega
theorem hlc_phys {a b : Stp} (h : hlcF a b ≤ 0) : a.f0 ≤ b.f0 := by
  unfold hlcF at h
  by_cases e : a.f0 = b.f0
  · omega
  · rw [if_neg e] at h
    unfold cN at h
    split at h
    · omega
    · split at h <;> omega
theorem hlc_le {a b c : Stp} (h1 : hlcF a b ≤ 0) (h2 : hlcF b c ≤ 0) : hlcF a c ≤ 0 := (cmp3_hlc.tr a b c h1 h2).1
theorem hlc_lt {a b c : Stp} (h1 : hlcF a b ≤ 0) (h2 : hlcF b c < 0) : hlcF a c < 0 := by
  have h := cmp3_hlc.tr a b c h1 (by omega)
  by_cases e : hlcF a c = 0
  · have := (h.2 e).2; omega
  · have := h.1; omega
theorem hlc_rec {a b : Rc} (h : hlcF a.f1 b.f1 < 0) : recF a b < 0 := by
  unfold recF
  rw [if_pos (by omega)]
  exact h
theorem rec_zero {a b : Rc} (h : recF a b = 0) (hk : a.f0 = b.f0) : a = b := by
  unfold recF at h
  by_cases e1 : hlcF a.f1 b.f1 ≠ 0
  · rw [if_pos e1] at h; exact absurd h e1
  · rw [if_neg e1] at h
    by_cases e2 : a.f2 ≠ b.f2
    · rw [if_pos e2] at h; exact absurd ((cN_eq _ _).1 h) e2
    · rw [if_neg e2] at h
      by_cases e3 : cS a.f5 b.f5 ≠ 0
      · rw [if_pos e3] at h; exact absurd h e3
      · rw [if_neg e3] at h
        by_cases e4 : a.f3 ≠ b.f3
        · rw [if_pos e4] at h; exact absurd ((cN_eq _ _).1 h) e4
        · rw [if_neg e4] at h
          have h1 := (hlcF_eq _ _).1 (show hlcF a.f1 b.f1 = 0 by omega)
          have h2 : a.f2 = b.f2 := by omega
          have h3 := (cS_eq _ _).1 (show cS a.f5 b.f5 = 0 by omega)
          have h4 : a.f3 = b.f3 := by omega
          have h5 := (cN_eq _ _).1 h
          obtain ⟨a0, a1, a2, a3, a4, a5⟩ := a
          obtain ⟨b0, b1, b2, b3, b4, b5⟩ := b
          simp only at *
          subst hk h1 h2 h3 h4 h5
          rfl
theorem rec_eq0 {a b : Rc} (h : a = b) : recF a b = 0 := by rw [h]; exact rec_self b
/-! ### What a store has never goes back -/
/-- What was had of a key is still there, or what came in its place; or it can never come again. -/
def Fw (c : SC) (s : SM) (now : Int) (k : ByteArray) (r0 : Rc) : Prop := match hasK s.L k with
  | some q => recF r0 q ≤ 0
  | none => hlcF r0.f1 (flAt s.F (rgN k)) ≤ 0 ∨ r0.f1.f0 + (c.keep : Int) ≤ now
theorem Fw.later {c : SC} {s : SM} {now now' : Int} {k : ByteArray} {r0 : Rc} (h : Fw c s now k r0) (hn : now ≤ now') : Fw c s now' k r0 := by
  unfold Fw at *
  split at h
  · exact h
  · rcases h with h | h
    · exact .inl h
    · exact .inr (by omega)
theorem hasK_cons (r : Rc) (L : List Rc) (k : ByteArray) : hasK (r :: L) k = if r.f0 = k then some r else hasK L k := by
  unfold hasK
  by_cases h : r.f0 = k
  · rw [if_pos h, List.find?_cons_of_pos (by simp [h])]
  · rw [if_neg h, List.find?_cons_of_neg (by simp [h])]
theorem hasK_filter {L : List Rc} (hn : (L.map (·.f0)).Nodup) (f : Rc → Bool) (k : ByteArray) : hasK (L.filter f) k = match hasK L k with | some q => if f q then some q else none | none => none := by
  cases h : hasK L k with
  | none =>
    exact hasK_none.2 fun r hr => hasK_none.1 h r (List.mem_filter.1 hr).1
  | some q =>
    obtain ⟨h1, h2⟩ := hasK_mem h
    have hn' : ((L.filter f).map (·.f0)).Nodup := hn.sublist (List.filter_sublist.map _)
    by_cases e : f q = true
    · simp only [e, if_true]
      rw [← h2]
      exact hasK_of hn' (List.mem_filter.2 ⟨h1, e⟩)
    · simp only [e]
      refine hasK_none.2 fun r hr ek => ?_
      have hr' := List.mem_filter.1 hr
      have : r = q := one_key hn hr'.1 h1 (by rw [ek, h2])
      rw [this] at hr'
      exact e hr'.2
theorem Fw.purge {c : SC} {s : SM} {now : Int} {k : ByteArray} {r0 : Rc} (hn : (s.L.map (·.f0)).Nodup) (h : Fw c s now k r0) : Fw c (purM c s now) now k r0 := by
  unfold Fw at *
  show match hasK (s.L.filter (fresh c now)) k with | some q => _ | none => _
  rw [hasK_filter hn]
  cases e : hasK s.L k with
  | none => rw [e] at h; exact h
  | some q =>
    rw [e] at h
    simp only at h ⊢
    by_cases hf : fresh c now q = true
    · rw [if_pos hf]; exact h
    · rw [if_neg hf]
      refine .inr ?_
      have := hlc_phys (rec_hlc h)
      unfold fresh at hf
      simp at hf
      omega
theorem Fw.get {c : SC} {s : SM} {now : Int} {k : ByteArray} {r0 : Rc} (hn : (s.L.map (·.f0)).Nodup) (k2 : ByteArray) (h : Fw c s now k r0) : Fw c (getM s k2) now k r0 := by
  unfold getM
  cases e : hasK s.L k2 with
  | none => exact h
  | some q =>
    unfold Fw at *
    obtain ⟨h1, h2⟩ := hasK_mem e
    show match hasK (q :: wo s.L k2) k with | some q => _ | none => hlcF r0.f1 (flAt s.F (rgN k)) ≤ 0 ∨ _
    rw [hasK_cons]
    by_cases ek : q.f0 = k
    · rw [if_pos ek]
      have : hasK s.L k = some q := by rw [← ek]; exact hasK_of hn h1
      rw [this] at h
      exact h
    · rw [if_neg ek]
      unfold wo
      rw [hasK_filter hn]
      cases e2 : hasK s.L k with
      | none => rw [e2] at h; exact h
      | some p =>
        rw [e2] at h
        have : notK k2 p = true := (notK_iff _ _).2 (by rw [(hasK_mem e2).2, ← h2]; exact fun x => ek x.symm)
        simp only [this, if_true]
        exact h
theorem flAt_raise (F : List Stp) (hF : F.length = 64) (r : Rc) (k : Nat) : flAt (raise F r) k = if k = rgN r.f0 ∧ hlcF (flAt F k) r.f1 < 0 then r.f1 else flAt F k := by
  unfold raise
  by_cases h : hlcF (flAt F (rgN r.f0)) r.f1 < 0
  · rw [if_pos h]
    by_cases e : k = rgN r.f0
    · subst e
      rw [if_pos ⟨rfl, h⟩]
      unfold flAt
      rw [List.getD_eq_getElem?_getD, List.getElem?_set_self (by rw [hF]; exact rgN_lt _)]
      rfl
    · rw [if_neg (fun x => e x.1)]
      unfold flAt
      rw [List.getD_eq_getElem?_getD, List.getD_eq_getElem?_getD, List.getElem?_set_ne (fun x => e x.symm)]
  · rw [if_neg h]
    rw [if_neg]
    rintro ⟨rfl, h2⟩
    exact h h2
theorem flAt_up (F : List Stp) (hF : F.length = 64) (r : Rc) (k : Nat) : hlcF (flAt F k) (flAt (raise F r) k) ≤ 0 := by
  rw [flAt_raise F hF]
  split
  · rename_i h; exact Int.le_of_lt h.2
  · have := cmp3_hlc.neg (flAt F k) (flAt F k); omega
theorem flAt_own (F : List Stp) (hF : F.length = 64) (r : Rc) : hlcF r.f1 (flAt (raise F r) (rgN r.f0)) ≤ 0 := by
  rw [flAt_raise F hF]
  split
  · have := cmp3_hlc.neg r.f1 r.f1; omega
  · rename_i h
    have := cmp3_hlc.neg (flAt F (rgN r.f0)) r.f1
    have : ¬ hlcF (flAt F (rgN r.f0)) r.f1 < 0 := fun x => h ⟨rfl, x⟩
    omega
/-- What a store's records and floors are known by. -/
structure Ok (s : SM) : Prop where
  nd : (s.L.map (·.f0)).Nodup
  fl : s.F.length = 64
theorem Ok.evict {s : SM} (h : Ok s) : Ok (evict1 s) := by
  unfold evict1
  cases e : s.L.getLast? with
  | none => exact h
  | some r => exact ⟨h.nd.sublist ((List.dropLast_sublist _).map _), (raise_len _ _).trans h.fl⟩
theorem Fw.evict {c : SC} {s : SM} {now : Int} {k : ByteArray} {r0 : Rc} (ho : Ok s) (h : Fw c s now k r0) : Fw c (evict1 s) now k r0 := by
  unfold evict1
  cases e : s.L.getLast? with
  | none => exact h
  | some r =>
    have hne : s.L ≠ [] := by intro x; rw [x] at e; simp at e
    have hl : s.L.dropLast ++ [r] = s.L := by
      have := List.dropLast_concat_getLast hne
      rw [List.getLast?_eq_some_getLast hne] at e
      injection e with e
      rw [← e]; exact this
    unfold Fw at *
    show match hasK s.L.dropLast k with | some q => _ | none => hlcF r0.f1 (flAt (raise s.F r) (rgN k)) ≤ 0 ∨ _
    have hsub : ∀ q, q ∈ s.L.dropLast → q ∈ s.L := fun q hq => (List.dropLast_sublist _).subset hq
    cases e2 : hasK s.L.dropLast k with
    | some q =>
      obtain ⟨h1, h2⟩ := hasK_mem e2
      have : hasK s.L k = some q := by rw [← h2]; exact hasK_of ho.nd (hsub q h1)
      rw [this] at h
      exact h
    | none =>
      cases e3 : hasK s.L k with
      | none =>
        rw [e3] at h
        rcases h with h | h
        · exact .inl (hlc_le h (flAt_up _ ho.fl _ _))
        · exact .inr h
      | some q =>
        rw [e3] at h
        obtain ⟨h1, h2⟩ := hasK_mem e3
        have hq : q = r := by
          rw [← hl] at h1
          rcases List.mem_append.1 h1 with h1 | h1
          · exact absurd h2 (hasK_none.1 e2 q h1)
          · exact List.mem_singleton.1 h1
        subst hq
        refine .inl (hlc_le (rec_hlc h) ?_)
        rw [← h2]
        exact flAt_own _ ho.fl _
theorem Ok.evl {c : SC} {n : Nat} : ∀ {d : Nat} {s : SM}, Ok s → Ok (evl c n d s)
  | 0, s, h => h
  | d + 1, s, h => by
    rw [Go.Proofs.Ytecgnfklfgjgaaa.evl]
    split
    · exact Ok.evl h.evict
    · exact h
theorem Fw.evl {c : SC} {n : Nat} {now : Int} {k : ByteArray} {r0 : Rc} : ∀ {d : Nat} {s : SM}, Ok s → Fw c s now k r0 → Fw c (evl c n d s) now k r0
  | 0, s, _, h => h
  | d + 1, s, ho, h => by
    rw [Go.Proofs.Ytecgnfklfgjgaaa.evl]
    split
    · exact Fw.evl ho.evict (h.evict ho)
    · exact h
theorem Fw.put1 {c : SC} {s : SM} {now : Int} {k : ByteArray} {r0 r : Rc} (ho : Ok s) (h : r.f0 = k → recF r0 r ≤ 0) (h2 : r.f0 ≠ k → Fw c s now k r0) : Fw c (put1 c s r) now k r0 := by
  by_cases e : r.f0 = k
  · unfold Fw
    show match hasK (r :: _) k with | some q => _ | none => _
    rw [hasK_cons, if_pos e]
    exact h e
  · have h3 := Fw.evl (n := wgt r) (d := s.L.length) ho (h2 e)
    unfold Fw at h3 ⊢
    show match hasK (r :: (Go.Proofs.Ytecgnfklfgjgaaa.evl c (wgt r) s.L.length s).L) k with | some q => _ | none => hlcF r0.f1 (flAt (Go.Proofs.Ytecgnfklfgjgaaa.evl c (wgt r) s.L.length s).F (rgN k)) ≤ 0 ∨ _
    rw [hasK_cons, if_neg e]
    exact h3
theorem Fw.put {c : SC} {s : SM} {now : Int} {k : ByteArray} {r0 r : Rc} (ho : Ok s) (h : Fw c s now k r0) : Fw c (putF c s r now).2.2 now k r0 := by
  by_cases hm : mayB r = false
  · unfold putF; rw [if_pos hm]; exact h
  · have hm' : mayB r = true := by cases e : mayB r with | true => rfl | false => exact absurd e hm
    by_cases ho2 : r.f1.f0 + (c.keep : Int) ≤ now
    · rw [putF_old hm' ho2]; exact h
    · cases e : hasK s.L r.f0 with
      | some q =>
        rw [putF_some hm' ho2 e]
        obtain ⟨q1, q2⟩ := hasK_mem e
        split
        · exact h
        · split
          · exact h
          · split
            · exact h
            · rename_i hlt _
              have hok : Ok ⟨wo s.L r.f0, s.F, s.ev⟩ := ⟨ho.nd.sublist (List.filter_sublist.map _), ho.fl⟩
              refine Fw.put1 hok (fun ek => ?_) (fun ek => ?_)
              · unfold Fw at h
                rw [← ek, e] at h
                have := cmp3_rec.neg r q
                exact rec_le h (by omega)
              · unfold Fw at h ⊢
                show match hasK (wo s.L r.f0) k with | some q => _ | none => hlcF r0.f1 (flAt s.F (rgN k)) ≤ 0 ∨ _
                unfold wo
                rw [hasK_filter ho.nd]
                cases e2 : hasK s.L k with
                | none => rw [e2] at h; exact h
                | some p =>
                  rw [e2] at h
                  have : notK r.f0 p = true := (notK_iff _ _).2 (by rw [(hasK_mem e2).2]; exact fun x => ek x.symm)
                  simp only [this, if_true]
                  exact h
      | none =>
        rw [putF_none hm' ho2 e]
        split
        · exact h
        · split
          · exact h
          · rename_i hfl _
            refine Fw.put1 ho (fun ek => ?_) (fun _ => h)
            unfold Fw at h
            rw [← ek, e] at h
            rcases h with h | h
            · have h1 := cmp3_hlc.neg r.f1 (flAt s.F (rgN r.f0))
              exact Int.le_of_lt (hlc_rec (hlc_lt h (by omega)))
            · refine Int.le_of_lt (hlc_rec ?_)
              by_cases e3 : hlcF r.f1 r0.f1 ≤ 0
              · have := hlc_phys e3; omega
              · have := cmp3_hlc.neg r.f1 r0.f1; omega
/-- All that was had. -/
def FwM (c : SC) (s : SM) (now : Int) (M : List (ByteArray × Rc)) : Prop := ∀ k r0, mget M k = some r0 → Fw c s now k r0
theorem FwM.see {c : SC} {s : SM} {now : Int} {M : List (ByteArray × Rc)} (h : FwM c s now M) {k : ByteArray} {q : Rc} (hq : hasK s.L k = some q) : FwM c s now (mput M k q) := by
  intro k2 r0 h2
  rw [mget_mput] at h2
  by_cases e : k2 = k
  · rw [if_pos e] at h2
    injection h2 with h2
    subst h2
    subst e
    unfold Fw
    rw [hq]
    have := rec_self q
    simp only
    omega
  · rw [if_neg e] at h2
    exact h k2 r0 h2
theorem FwM.ok {c : SC} {s : SM} {now : Int} {M : List (ByteArray × Rc)} (h : FwM c s now M) {k : ByteArray} {q r0 : Rc} (hq : hasK s.L k = some q) (hr : mget M k = some r0) : ¬ recF q r0 < 0 := by
  have := h k r0 hr
  unfold Fw at this
  rw [hq] at this
  have h2 := cmp3_rec.neg q r0
  simp only at this
  omega
end Go.Proofs.Ytecgnfklfgjgaaa
