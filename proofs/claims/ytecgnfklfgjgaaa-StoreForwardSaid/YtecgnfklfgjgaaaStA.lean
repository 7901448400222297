/- Several texts put together. -/
import Derived.Test.YtecgnfklfgjgaaaWhH
import Derived.Test.YtecgnfklfgjgaaaTabB
import Derived.Test.YtecgnfklfgjgaaaLL
import Derived.Test.YtecgnfklfgjgaaaLib
set_option linter.unusedVariables false
set_option linter.unusedSimpArgs false
/- The store, plain: what the document's list says, what the places say. No program in sight. -/
set_option linter.unusedVariables false
set_option linter.unusedSimpArgs false
namespace Go.Proofs.Ytecgnfklfgjgaaa
open Go.RowKit Go.Tat Go.Tab Go.Proofs.YtecgnfklfgjgaaaW.PrintWords PStorePeeks
instance decStp : DecidableEq Stp := fun a b => decidable_of_iff (a.f0 = b.f0 ∧ a.f1 = b.f1 ∧ a.f2 = b.f2) (by obtain ⟨a0, a1, a2⟩ := a; obtain ⟨b0, b1, b2⟩ := b; simp)
instance decRc : DecidableEq Rc := fun a b => decidable_of_iff (a.f0 = b.f0 ∧ a.f1 = b.f1 ∧ a.f2 = b.f2 ∧ a.f3 = b.f3 ∧ a.f4 = b.f4 ∧ a.f5 = b.f5) (by obtain ⟨a0, a1, a2, a3, a4, a5⟩ := a; obtain ⟨b0, b1, b2, b3, b4, b5⟩ := b; simp)
def zSt : Stp := ⟨0, 0, 0⟩
def zRc : Rc := ⟨ByteArray.empty, zSt, 0, 0, 0, ByteArray.empty⟩
def digN (r : Rc) : Nat := (digI r).toNat
theorem digN_i (r : Rc) : digI r = (digN r : Int) := by have := (digI_64 r).1; unfold digN; omega
theorem digN_lt (r : Rc) : digN r < 18446744073709551616 := by have := (digI_64 r).2; have := (digI_64 r).1; unfold digN; omega
/-- A range's number: of all its records. -/
def dgL (L : List Rc) (k : Nat) : Nat := L.foldr (fun r x => if rgN r.f0 = k then digN r ^^^ x else x) 0
theorem dgL_cons (r : Rc) (L : List Rc) (k : Nat) : dgL (r :: L) k = if rgN r.f0 = k then digN r ^^^ dgL L k else dgL L k := rfl
theorem dgL_perm {L M : List Rc} (h : L.Perm M) (k : Nat) : dgL L k = dgL M k := by
  induction h with
  | nil => rfl
  | cons x _ ih => rw [dgL_cons, dgL_cons, ih]
  | swap x y l =>
    rw [dgL_cons, dgL_cons, dgL_cons, dgL_cons]
    generalize dgL l k = z
    generalize digN x = a
    generalize digN y = b
    by_cases h1 : rgN x.f0 = k
    · by_cases h2 : rgN y.f0 = k
      · rw [if_pos h1, if_pos h2, if_pos h1, if_pos h2, ← Nat.xor_assoc, ← Nat.xor_assoc, Nat.xor_comm b]
      · rw [if_pos h1, if_neg h2, if_pos h1, if_neg h2]
    · by_cases h2 : rgN y.f0 = k
      · simp only [if_neg h1, if_pos h2]
      · simp only [if_neg h1, if_neg h2]
  | trans _ _ h1 h2 => exact h1.trans h2
theorem dgL_lt (L : List Rc) (k : Nat) : dgL L k < 18446744073709551616 := by
  induction L with
  | nil => show (0 : Nat) < _; decide
  | cons r L ih =>
    rw [dgL_cons]
    split
    · exact Nat.xor_lt_two_pow (n := 64) (digN_lt r) ih
    · exact ih
theorem xor_back (a b : Nat) : (a ^^^ b) ^^^ a = b := by rw [Nat.xor_comm a b, Nat.xor_assoc, Nat.xor_self, Nat.xor_zero]
def szL (L : List Rc) : Nat := (L.map wgt).sum
theorem szL_cons (r : Rc) (L : List Rc) : szL (r :: L) = wgt r + szL L := by simp [szL]
theorem szL_perm {L M : List Rc} (h : L.Perm M) : szL L = szL M := (h.map wgt).sum_nat
/-- The record of a key. -/
def hasK (L : List Rc) (k : ByteArray) : Option Rc := L.find? fun r => decide (r.f0 = k)
def notK (k : ByteArray) (r : Rc) : Bool := !decide (r.f0 = k)
theorem notK_iff (k : ByteArray) (r : Rc) : notK k r = true ↔ r.f0 ≠ k := by simp [notK]
/-- All but a key's. -/
def wo (L : List Rc) (k : ByteArray) : List Rc := L.filter (notK k)
theorem hasK_none {L : List Rc} {k : ByteArray} : hasK L k = none ↔ ∀ r ∈ L, r.f0 ≠ k := by
  unfold hasK; rw [List.find?_eq_none]; simp
theorem hasK_mem {L : List Rc} {k : ByteArray} {r : Rc} (h : hasK L k = some r) : r ∈ L ∧ r.f0 = k := by
  unfold hasK at h
  exact ⟨List.mem_of_find?_eq_some h, by have := List.find?_some h; simpa using this⟩
theorem one_key {L : List Rc} (h : (L.map (·.f0)).Nodup) {x y : Rc} (hx : x ∈ L) (hy : y ∈ L) (e : x.f0 = y.f0) : x = y := by
  induction L with
  | nil => exact absurd hx List.not_mem_nil
  | cons z l ih =>
    rw [List.map_cons, List.nodup_cons] at h
    rcases List.mem_cons.1 hx with hx1 | hx1 <;> rcases List.mem_cons.1 hy with hy1 | hy1
    · rw [hx1, hy1]
    · exact absurd (List.mem_map.2 ⟨y, hy1, by rw [← e, hx1]⟩) h.1
    · exact absurd (List.mem_map.2 ⟨x, hx1, by rw [e, hy1]⟩) h.1
    · exact ih h.2 hx1 hy1
theorem hasK_of {L : List Rc} (h : (L.map (·.f0)).Nodup) {r : Rc} (hr : r ∈ L) : hasK L r.f0 = some r := by
  cases e : hasK L r.f0 with
  | none => exact absurd rfl (hasK_none.1 e r hr)
  | some q => obtain ⟨h1, h2⟩ := hasK_mem e; rw [one_key h h1 hr h2]
theorem wo_none {L : List Rc} {k : ByteArray} (h : hasK L k = none) : wo L k = L := by
  unfold wo; rw [List.filter_eq_self]; exact fun r hr => (notK_iff k r).2 (hasK_none.1 h r hr)
theorem wo_perm {L : List Rc} (h : (L.map (·.f0)).Nodup) {r : Rc} (hr : r ∈ L) : L.Perm (r :: wo L r.f0) := by
  induction L with
  | nil => exact absurd hr List.not_mem_nil
  | cons z l ih =>
    rw [List.map_cons, List.nodup_cons] at h
    by_cases e : z.f0 = r.f0
    · have hz : z = r := by
        rcases List.mem_cons.1 hr with h1 | h1
        · exact h1.symm
        · exact absurd (List.mem_map.2 ⟨r, h1, e.symm⟩) h.1
      subst hz
      have : wo (z :: l) z.f0 = l := by
        unfold wo
        rw [List.filter_cons_of_neg (by simp [notK])]
        rw [List.filter_eq_self]
        exact fun q hq => (notK_iff _ _).2 fun e => h.1 (List.mem_map.2 ⟨q, hq, e⟩)
      rw [this]
    · have h1 : r ∈ l := by
        rcases List.mem_cons.1 hr with h1 | h1
        · rw [h1] at e; exact absurd rfl e
        · exact h1
      have : wo (z :: l) r.f0 = z :: wo l r.f0 := by unfold wo; rw [List.filter_cons_of_pos ((notK_iff _ _).2 e)]
      rw [this]
      exact ((ih h.2 h1).cons z).trans (List.Perm.swap _ _ _)
/-- The store's model: its records, the one used last first; its floors; how many were evicted. -/
structure SM where
  L : List Rc
  F : List Stp
  ev : Nat
/-- Its bounds. -/
structure SC where
  most : Nat
  bytes : Nat
  keep : Nat
/-- What lies where. -/
structure PD where
  R : List Rc
  fr : List Nat
  T : List (ByteArray × Int)
  o : List Nat
  m : List S114
  D : List Nat
  b : Bool
def rAt (R : List Rc) (p : Nat) : Rc := R.getD p zRc
theorem rAt_set (R : List Rc) (p : Nat) (r : Rc) (q : Nat) (h : q ≠ p) : rAt (R.set p r) q = rAt R q := by
  unfold rAt; rw [List.getD_eq_getElem?_getD, List.getD_eq_getElem?_getD, List.getElem?_set, if_neg (fun e => h e.symm)]
theorem rAt_self {R : List Rc} {p : Nat} (h : p < R.length) (r : Rc) : rAt (R.set p r) p = r := by
  unfold rAt; rw [List.getD_eq_getElem?_getD, List.getElem?_set, if_pos rfl, if_pos h]; rfl
theorem rAt_get {R : List Rc} {p : Nat} (h : p < R.length) : R[p]? = some (rAt R p) := by
  unfold rAt; rw [List.getD_eq_getElem?_getD, List.getElem?_eq_getElem h]; rfl
def tmOf (c : SC) (R : List Rc) (p : Nat) : S114 := ⟨(p : Int), (rAt R p).f1.f0 + (c.keep : Int)⟩
structure SI (c : SC) (s : SM) (d : PD) : Prop where
  rl : d.R.length = c.most
  m1 : 1 ≤ c.most
  m2 : c.most ≤ 1024
  b2 : c.bytes ≤ 1048576
  k1 : 1 ≤ c.keep
  k2 : c.keep ≤ 1000
  L : s.L = d.o.map (rAt d.R)
  pl : (d.fr ++ d.o).Perm (List.range c.most)
  T : d.T.Perm (d.o.map fun p => ((rAt d.R p).f0, (p : Int)))
  m : d.b = true → d.m.Perm (d.o.map (tmOf c d.R))
  Dl : d.D.length = 64
  D : ∀ k, k < 64 → d.D[k]? = some (dgL s.L k)
  Fl : s.F.length = 64
  keys : (s.L.map (·.f0)).Nodup
  may : ∀ r ∈ s.L, mayB r = true ∧ 0 ≤ r.f1.f0
  size : szL s.L ≤ c.bytes
theorem may_lens {r : Rc} (h : mayB r = true) : 1 ≤ r.f0.size ∧ r.f0.size ≤ 250 ∧ r.f5.size ≤ 1024 ∧ r.f1.f0 ≤ 281474976710655 := by
  unfold mayB keyB at h
  simp only [Bool.and_eq_true, decide_eq_true_eq] at h
  exact ⟨h.1.1.1.1.1.1.2, h.1.1.1.1.1.2, h.1.2, h.1.1.1.1.2⟩
theorem drop_mem {o : List Nat} {p q : Nat} : q ∈ dropO o (p : Int) ↔ q ∈ o ∧ q ≠ p := by
  unfold dropO; rw [List.mem_filter]
  refine and_congr_right fun _ => ?_
  rw [bne_iff_ne]; omega
theorem drop_perm {o : List Nat} (h : o.Nodup) {p : Nat} (hp : p ∈ o) : o.Perm (p :: dropO o (p : Int)) := by
  refine (List.perm_ext_iff_of_nodup h ?_).2 fun q => ?_
  · rw [List.nodup_cons]
    exact ⟨fun hm => (drop_mem.1 hm).2 rfl, h.filter _⟩
  · rw [List.mem_cons, drop_mem]
    by_cases e : q = p
    · subst e; simp [hp]
    · simp [e]
theorem drop_none {o : List Nat} {p : Nat} (hp : p ∉ o) : dropO o (p : Int) = o := by
  unfold dropO; rw [List.filter_eq_self]
  intro q hq
  rw [bne_iff_ne]
  intro e
  exact hp ((by omega : q = p) ▸ hq)
section
variable {c : SC} {s : SM} {d : PD}
theorem SI.nd (h : SI c s d) : (d.fr ++ d.o).Nodup := h.pl.nodup_iff.2 List.nodup_range
theorem SI.ond (h : SI c s d) : d.o.Nodup := (List.nodup_append.1 h.nd).2.1
theorem SI.olt (h : SI c s d) {p : Nat} (hp : p ∈ d.o) : p < c.most := List.mem_range.1 (h.pl.mem_iff.1 (List.mem_append_right _ hp))
theorem SI.flt (h : SI c s d) {p : Nat} (hp : p ∈ d.fr) : p < c.most := List.mem_range.1 (h.pl.mem_iff.1 (List.mem_append_left _ hp))
theorem SI.mem (h : SI c s d) {p : Nat} (hp : p ∈ d.o) : rAt d.R p ∈ s.L := by rw [h.L]; exact List.mem_map.2 ⟨p, hp, rfl⟩
theorem SI.lens (h : SI c s d) : d.fr.length + d.o.length = c.most := by have := h.pl.length_eq; simpa using this
theorem SI.llen (h : SI c s d) : s.L.length = d.o.length := by rw [h.L, List.length_map]
theorem SI.tlen (h : SI c s d) : d.T.length = s.L.length := by rw [h.T.length_eq, List.length_map, h.llen]
theorem SI.mlen (h : SI c s d) (hb : d.b = true) : d.m.length = s.L.length := by rw [(h.m hb).length_eq, List.length_map, h.llen]
theorem SI.inj (h : SI c s d) {p q : Nat} (hp : p ∈ d.o) (hq : q ∈ d.o) (e : (rAt d.R p).f0 = (rAt d.R q).f0) : p = q := by
  have hk := h.keys
  rw [h.L, List.map_map] at hk
  have := h.ond
  generalize d.o = o at *
  clear h
  induction o with
  | nil => exact absurd hp List.not_mem_nil
  | cons z l ih =>
    rw [List.map_cons, List.nodup_cons] at hk
    rcases List.mem_cons.1 hp with h1 | h1 <;> rcases List.mem_cons.1 hq with h2 | h2
    · rw [h1, h2]
    · exact absurd (List.mem_map.2 ⟨q, h2, by rw [← h1]; exact e.symm⟩) hk.1
    · exact absurd (List.mem_map.2 ⟨p, h1, by rw [← h2]; exact e⟩) hk.1
    · exact ih h1 h2 hk.2 (List.nodup_cons.1 this).2
/-- What the table says of a key. -/
theorem SI.look (h : SI c s d) (hn : (d.T.map (·.1)).Nodup) {k : ByteArray} {v : Int} : mg d.T k = some v ↔ ∃ p ∈ d.o, v = (p : Int) ∧ (rAt d.R p).f0 = k := by
  rw [mg_some hn, h.T.mem_iff, List.mem_map]
  constructor
  · rintro ⟨p, hp, e⟩
    injection e with e1 e2
    exact ⟨p, hp, e2.symm, e1⟩
  · rintro ⟨p, hp, rfl, e⟩
    exact ⟨p, hp, by rw [e]⟩
theorem SI.tnd (h : SI c s d) : (d.T.map (·.1)).Nodup := by
  have := h.T.map (·.1)
  rw [List.map_map] at this
  refine this.nodup_iff.2 ?_
  have hk := h.keys
  rw [h.L, List.map_map] at hk
  exact hk
theorem SI.look_none (h : SI c s d) {k : ByteArray} : mg d.T k = none ↔ hasK s.L k = none := by
  rw [mg_none, hasK_none, h.L]
  constructor
  · intro hn r hr e
    obtain ⟨p, hp, rfl⟩ := List.mem_map.1 hr
    exact hn (p : Int) (h.T.mem_iff.2 (List.mem_map.2 ⟨p, hp, by rw [e]⟩))
  · intro hn v hv
    obtain ⟨p, hp, e⟩ := List.mem_map.1 (h.T.mem_iff.1 hv)
    injection e with e1 e2
    exact hn _ (List.mem_map.2 ⟨p, hp, rfl⟩) e1
theorem SI.look_some (h : SI c s d) {k : ByteArray} {r : Rc} (hr : hasK s.L k = some r) : ∃ p ∈ d.o, mg d.T k = some (p : Int) ∧ rAt d.R p = r := by
  obtain ⟨h1, h2⟩ := hasK_mem hr
  rw [h.L] at h1
  obtain ⟨p, hp, e⟩ := List.mem_map.1 h1
  exact ⟨p, hp, (h.look h.tnd).2 ⟨p, hp, rfl, by rw [e]; exact h2⟩, e⟩
theorem SI.wo_map (h : SI c s d) {p : Nat} (hp : p ∈ d.o) (x : Rc) : wo s.L (rAt d.R p).f0 = (dropO d.o (p : Int)).map (rAt (d.R.set p x)) := by
  unfold wo
  rw [h.L, List.filter_map]
  have e1 : List.filter (notK (rAt d.R p).f0 ∘ rAt d.R) d.o = dropO d.o (p : Int) := by
    unfold dropO
    refine List.filter_congr fun q hq => ?_
    rw [Bool.eq_iff_iff]
    show notK _ _ = true ↔ _
    rw [notK_iff, bne_iff_ne]
    constructor
    · intro hne e
      exact hne (by rw [(by omega : q = p)])
    · intro hne e
      exact hne (by rw [h.inj hq hp e])
  rw [e1]
  refine List.map_congr_left fun q hq => ?_
  rw [rAt_set _ _ _ _ (drop_mem.1 hq).2]
/-- A record taken out. -/
theorem SI.take (h : SI c s d) {p : Nat} (hp : p ∈ d.o) {T' : List (ByteArray × Int)} (hT : d.T.Perm (((rAt d.R p).f0, (p : Int)) :: T')) :
    SI c ⟨wo s.L (rAt d.R p).f0, s.F, s.ev⟩ ⟨d.R.set p zRc, d.fr ++ [p], T', dropO d.o (p : Int), d.m.filter (notId (p : Int)), d.D.set (rgN (rAt d.R p).f0) (dgL s.L (rgN (rAt d.R p).f0) ^^^ digN (rAt d.R p)), d.b⟩ := by
  have hmem := h.mem hp
  have hwp := wo_perm h.keys hmem
  have hop := drop_perm h.ond hp
  have hsub : (wo s.L (rAt d.R p).f0).Sublist s.L := List.filter_sublist
  refine ⟨by show (d.R.set p zRc).length = _; rw [List.length_set]; exact h.rl, h.m1, h.m2, h.b2, h.k1, h.k2, h.wo_map hp zRc, ?_, ?_, ?_, by show (d.D.set _ _).length = _; rw [List.length_set]; exact h.Dl, ?_, h.Fl, h.keys.sublist (hsub.map _), fun r hr => h.may r (hsub.subset hr), ?_⟩
  · show (d.fr ++ [p] ++ dropO d.o (p : Int)).Perm _
    rw [List.append_assoc]
    exact (hop.symm.append_left d.fr).trans h.pl
  · show T'.Perm ((dropO d.o (p : Int)).map fun q => ((rAt (d.R.set p zRc) q).f0, (q : Int)))
    have e : (dropO d.o (p : Int)).map (fun q => ((rAt (d.R.set p zRc) q).f0, (q : Int))) = (dropO d.o (p : Int)).map (fun q => ((rAt d.R q).f0, (q : Int))) :=
      List.map_congr_left fun q hq => by rw [rAt_set _ _ _ _ (drop_mem.1 hq).2]
    rw [e]
    have h1 := (hT.symm.trans h.T).trans (hop.map fun q => ((rAt d.R q).f0, (q : Int)))
    exact (List.perm_cons _).1 h1
  · intro hb
    show (d.m.filter (notId (p : Int))).Perm ((dropO d.o (p : Int)).map (tmOf c (d.R.set p zRc)))
    have e : (dropO d.o (p : Int)).map (tmOf c (d.R.set p zRc)) = (d.o.map (tmOf c d.R)).filter (notId (p : Int)) := by
      rw [List.filter_map]
      have e1 : List.filter (notId (p : Int) ∘ tmOf c d.R) d.o = dropO d.o (p : Int) := by
        unfold dropO
        refine List.filter_congr fun q hq => ?_
        rw [Bool.eq_iff_iff]
        show notId _ _ = true ↔ _
        rw [notId_iff, bne_iff_ne]
        exact Iff.rfl
      rw [e1]
      refine List.map_congr_left fun q hq => ?_
      unfold tmOf
      rw [rAt_set _ _ _ _ (drop_mem.1 hq).2]
    rw [e]
    exact (h.m hb).filter _
  · intro k hk
    show (d.D.set _ _)[k]? = some (dgL (wo s.L (rAt d.R p).f0) k)
    rw [List.getElem?_set]
    have h1 := dgL_perm hwp k
    rw [dgL_cons] at h1
    by_cases e : rgN (rAt d.R p).f0 = k
    · rw [if_pos e] at h1
      rw [if_pos e, if_pos (by rw [e, h.Dl]; exact hk), e, h1, xor_back]
    · rw [if_neg e] at h1
      rw [if_neg e, ← h1]
      exact h.D k hk
  · show szL (wo s.L (rAt d.R p).f0) ≤ _
    have h1 := szL_perm hwp
    rw [szL_cons] at h1
    have := h.size
    omega
/-- A record laid into a free place. -/
theorem SI.lay (h : SI c s d) {fr : List Nat} {p : Nat} (hf : d.fr = fr ++ [p]) {r : Rc} (hn : hasK s.L r.f0 = none) (hm : mayB r = true) (hr : 0 ≤ r.f1.f0) (hs : szL s.L + wgt r ≤ c.bytes) :
    SI c ⟨r :: s.L, s.F, s.ev⟩ ⟨d.R.set p r, fr, (r.f0, (p : Int)) :: d.T, p :: dropO d.o (p : Int), addM d.m (p : Int) (r.f1.f0 + (c.keep : Int)), d.D.set (rgN r.f0) (dgL s.L (rgN r.f0) ^^^ digN r), d.b⟩ := by
  have hpf : p ∈ d.fr := by rw [hf]; simp
  have hpo : p ∉ d.o := fun hp => (List.nodup_append.1 h.nd).2.2 p hpf p hp rfl
  have hpl : p < d.R.length := by rw [h.rl]; exact h.flt hpf
  have hmap : d.o.map (rAt (d.R.set p r)) = d.o.map (rAt d.R) := List.map_congr_left fun q hq => rAt_set _ _ _ _ (fun e => hpo (by rw [← e]; exact hq))
  have hdn := drop_none hpo
  refine ⟨by show (d.R.set p r).length = _; rw [List.length_set]; exact h.rl, h.m1, h.m2, h.b2, h.k1, h.k2, ?_, ?_, ?_, ?_, by show (d.D.set _ _).length = _; rw [List.length_set]; exact h.Dl, ?_, h.Fl, ?_, ?_, by show szL (r :: s.L) ≤ _; rw [szL_cons]; omega⟩
  · show r :: s.L = (p :: dropO d.o (p : Int)).map (rAt (d.R.set p r))
    rw [hdn, List.map_cons, rAt_self hpl, hmap, h.L]
  · show (fr ++ p :: dropO d.o (p : Int)).Perm _
    rw [hdn]
    have h1 := h.pl
    rw [hf, List.append_assoc] at h1
    exact h1
  · show ((r.f0, (p : Int)) :: d.T).Perm ((p :: dropO d.o (p : Int)).map fun q => ((rAt (d.R.set p r) q).f0, (q : Int)))
    rw [hdn, List.map_cons, rAt_self hpl]
    refine (List.perm_cons _).2 ?_
    have e : d.o.map (fun q => ((rAt (d.R.set p r) q).f0, (q : Int))) = d.o.map (fun q => ((rAt d.R q).f0, (q : Int))) :=
      List.map_congr_left fun q hq => by rw [rAt_set _ _ _ _ (fun e => hpo (by rw [← e]; exact hq))]
    rw [e]
    exact h.T
  · intro hb
    show (addM d.m (p : Int) (r.f1.f0 + (c.keep : Int))).Perm ((p :: dropO d.o (p : Int)).map (tmOf c (d.R.set p r)))
    have e : d.o.map (tmOf c (d.R.set p r)) = d.o.map (tmOf c d.R) := List.map_congr_left fun q hq => by unfold tmOf; rw [rAt_set _ _ _ _ (fun e => hpo (by rw [← e]; exact hq))]
    have e2 : tmOf c (d.R.set p r) p = ⟨(p : Int), r.f1.f0 + (c.keep : Int)⟩ := by unfold tmOf; rw [rAt_self hpl]
    rw [hdn, List.map_cons, e, e2]
    have e3 : d.m.filter (notId (p : Int)) = d.m := by
      rw [List.filter_eq_self]
      intro t ht
      rw [notId_iff]
      intro et
      obtain ⟨q, hq, eq⟩ := List.mem_map.1 ((h.m hb).mem_iff.1 ht)
      rw [← eq] at et
      exact hpo ((by have : (q : Int) = (p : Int) := et; omega : q = p) ▸ hq)
    unfold addM
    rw [e3]
    exact List.perm_append_singleton _ _ |>.trans ((List.perm_cons _).2 (h.m hb))
  · intro k hk
    show (d.D.set _ _)[k]? = some (dgL (r :: s.L) k)
    rw [List.getElem?_set, dgL_cons]
    by_cases e : rgN r.f0 = k
    · rw [if_pos e, if_pos (by rw [e, h.Dl]; exact hk), if_pos e, e, Nat.xor_comm]
    · rw [if_neg e, if_neg e]
      exact h.D k hk
  · show ((r :: s.L).map (·.f0)).Nodup
    rw [List.map_cons, List.nodup_cons]
    refine ⟨fun hx => ?_, h.keys⟩
    obtain ⟨q, hq, e⟩ := List.mem_map.1 hx
    exact hasK_none.1 hn q hq e
  · intro q hq
    rcases List.mem_cons.1 hq with rfl | hq
    · exact ⟨hm, hr⟩
    · exact h.may q hq
/-- A record used. -/
theorem SI.use (h : SI c s d) {p : Nat} (hp : p ∈ d.o) :
    SI c ⟨rAt d.R p :: wo s.L (rAt d.R p).f0, s.F, s.ev⟩ ⟨d.R, d.fr, d.T, p :: dropO d.o (p : Int), d.m, d.D, d.b⟩ := by
  have hwp := wo_perm h.keys (h.mem hp)
  have hop := drop_perm h.ond hp
  refine ⟨h.rl, h.m1, h.m2, h.b2, h.k1, h.k2, ?_, (hop.symm.append_left d.fr).trans h.pl, h.T.trans (hop.map _), fun hb => (h.m hb).trans (hop.map _), h.Dl, fun k hk => ?_, h.Fl, ((hwp.map (·.f0)).nodup_iff).1 h.keys, fun r hr => h.may r (hwp.mem_iff.2 hr), by show szL (_ :: wo _ _) ≤ _; rw [← szL_perm hwp]; exact h.size⟩
  · show rAt d.R p :: wo s.L (rAt d.R p).f0 = (p :: dropO d.o (p : Int)).map (rAt d.R)
    rw [List.map_cons, h.wo_map hp (rAt d.R p)]
    congr 1
    refine List.map_congr_left fun q hq => ?_
    rw [rAt_set _ _ _ _ (drop_mem.1 hq).2]
  · show d.D[k]? = some (dgL (_ :: wo _ _) k)
    rw [← dgL_perm hwp]
    exact h.D k hk
/-- Floors, and how many were evicted, play no part. -/
theorem SI.floors (h : SI c s d) {F : List Stp} (hF : F.length = 64) (ev : Nat) : SI c ⟨s.L, F, ev⟩ d :=
  ⟨h.rl, h.m1, h.m2, h.b2, h.k1, h.k2, h.L, h.pl, h.T, h.m, h.Dl, h.D, hF, h.keys, h.may, h.size⟩
theorem SI.new (c : SC) (m1 : 1 ≤ c.most) (m2 : c.most ≤ 1024) (b2 : c.bytes ≤ 1048576) (k1 : 1 ≤ c.keep) (k2 : c.keep ≤ 1000) : SI c ⟨[], List.replicate 64 zSt, 0⟩ ⟨List.replicate c.most zRc, (List.range c.most).reverse, [], [], [], List.replicate 64 0, true⟩ :=
  ⟨by simp, m1, m2, b2, k1, k2, rfl, by show ((List.range c.most).reverse ++ []).Perm _; rw [List.append_nil]; exact List.reverse_perm _, by simp, by simp, by simp, fun k hk => by rw [List.getElem?_replicate, if_pos hk]; rfl, by simp, by simp, by simp, by simp [szL]⟩
end
end Go.Proofs.Ytecgnfklfgjgaaa
/- The store's object: its cells, what lies behind them. -/
set_option linter.unusedVariables false
set_option linter.unusedSimpArgs false
namespace Go.Tat
open Go.RowKit
/-- A struct stored into a block. -/
theorem St.wpBlkAt {P : Program} {ops : Array Oper} {rest : List Oper} {o : Oper} {a : Act} {Q : Exit → Act → World → Prop} {Fp : Nat → Prop} {w0 W : World} {L : List Asr} (hg : o.guard = none) (t : TypeId) (x y : Operand) (hop : o.op = .store t x y) (H : St Fp w0 W L) (i : Nat) {b e : Nat} {cur : Array Value} (hi : L[i]? = some (blk b cur e)) (k : Nat) (vs : List Value) (cur' : Array Value)
    (hcur : cur'.toList = cur.toList.take k ++ vs ++ cur.toList.drop (k + vs.length)) (hk : k + vs.length ≤ cur.size) (h1 : ∀ v ∈ vs, v.oneCell' = true) (hsz : (P.info? t).map (·.size) = some vs.length)
    (hx : a.eval x = .pointer (some ⟨b, k, none⟩)) (hy : a.eval y = .agg vs.toArray)
    (h : ∀ w', Hid (St Fp w0 w' (L.set i (blk b cur' e))) → wpList P ops Q rest (a.put o.dst undef) w') : wpList P ops Q (o :: rest) a W := by
  refine wpList_store_at hg t x y hop b k e cur (.agg vs.toArray) vs hx hy (by simp [Value.cells]) hsz (H.get i hi) hk h1 fun w' cc g1 g2 g3 g4 => h w' (Lib.hid ?_)
  refine H.upd i hi g3 ?_ (fun k hk => .inl hk)
  have : cc = cur' := by rw [← Array.toList_inj, g2, hcur]
  rw [← this]
  exact g1
end Go.Tat
namespace Go.Proofs.Ytecgnfklfgjgaaa
open Go.RowKit Go.Tat Go.Tab Go.Proofs.YtecgnfklfgjgaaaW.PrintWords PStorePeeks
/-! ### lru.List, as an assertion -/
theorem Lru.local {w w' : World} {g b n : Nat} {o : List Nat} (h : Lru w g b n o) (m : ∀ k, k = g ∨ k = b → w'.heap[k]? = w.heap[k]?) : Lru w' g b n o := by
  obtain ⟨cap, S, L, C, W⟩ := h
  have hB : ∀ {x : Nat} {f : Nat → Option Value}, Blk w x f → w'.heap[x]? = w.heap[x]? → Blk w' x f := fun {x f} hb e =>
    ⟨fun j => (World.cell?_of_block (a := ⟨x, j, none⟩) e).trans (hb.cell j), fun j => (World.frozen?_of_block (a := ⟨x, j, none⟩) e).trans (hb.fz j), by
      have h2 := hb.lt
      rw [Array.getElem?_eq_getElem h2] at e
      exact (Array.getElem?_eq_some_iff.1 e).1⟩
  exact ⟨cap, S, ⟨L.ne, hB L.hg (m g (.inl rfl)), hB L.hb (m b (.inr rfl))⟩, C, W⟩
def lA (g b n : Nat) (o : List Nat) : Asr where
  fp k := k = g ∨ k = b
  holds w := Lru w g b n o
  lt h hk := by rcases hk with rfl | rfl; exact h.lt.1; exact h.lt.2
  loc h m := h.local m
section
variable {F : Nat → Prop} {w0 w : World} {A : List Asr}
theorem ldrop_st (h : St F w0 w A) (i : Nat) {g b n : Nat} {o : List Nat} (hi : A[i]? = some (lA g b n o)) (x : Int) :
    Calls Try.prog 54 #[.pointer (some ⟨g, 0, none⟩), .int .i64 x] w fun e w' => (∃ v, e = .returned v) ∧ St F w0 w' (A.set i (lA g b n (dropO o x))) :=
  (lru_drop x (h.get i hi)).mono fun e w' ⟨he, m, H⟩ => ⟨⟨_, he⟩, h.upd i hi (m.mono fun k _ hk => .inr hk) (a' := lA g b n (dropO o x)) H (fun k hk => .inl hk)⟩
theorem luse_st (h : St F w0 w A) (i : Nat) {g b n : Nat} {o : List Nat} (hi : A[i]? = some (lA g b n o)) (x : Nat) (hx : x < n) :
    Calls Try.prog 37 #[.pointer (some ⟨g, 0, none⟩), .int .i64 (x : Int)] w fun e w' => e = .returned (.int .i64 0) ∧ St F w0 w' (A.set i (lA g b n (x :: dropO o (x : Int)))) :=
  (lru_use (x : Int) (by omega) (h.get i hi)).mono fun e w' ⟨he, m, H⟩ => ⟨he, h.upd i hi (m.mono fun k _ hk => .inr hk) (a' := lA g b n (x :: dropO o (x : Int))) (by have := H; rw [Int.toNat_natCast] at this; exact this) (fun k hk => .inl hk)⟩
theorem lold_st (h : St F w0 w A) (i : Nat) {g b n : Nat} {o : List Nat} (hi : A[i]? = some (lA g b n o)) :
    Calls Try.prog 57 #[.pointer (some ⟨g, 0, none⟩)] w fun e w' => e = .returned (.tuple #[.int .i64 ((o.getLastD 0 : Nat) : Int), .bool (!o.isEmpty)]) ∧ St F w0 w' A :=
  (lru_oldest (h.get i hi)).mono fun e w' ⟨he, m⟩ => ⟨he, h.below m⟩
def lnewPost (F : Nat → Prop) (w0 : World) (A : List Asr) (n : Nat) (e : Ending) (w' : World) : Prop := ∃ g b, e = .returned (.tuple #[.pointer (some ⟨g, 0, none⟩), .int .i64 0]) ∧ St F w0 w' (A ++ [lA g b n []])
theorem lnew_st (h : St F w0 w A) (n : Nat) (h1 : 1 ≤ n) (h2 : n ≤ 1024) : Calls Try.prog 25 #[.int .i64 n] w (lnewPost F w0 A n) :=
  (lru_new n w h1 h2).mono fun e w' ⟨g, b, he, hg, hb, m, H⟩ => ⟨g, b, he, h.add (a := lA g b n []) m H (fun k hk => by rcases hk with rfl | rfl <;> assumption)⟩
end
/-! ### The object's cells -/
def dV (D : List Nat) : List Value := D.map fun (n : Nat) => Value.int .u64 (n : Int)
def sCells (vR vF : Value) (tg ug wg : Nat) (c : SC) (F : List Stp) (D : List Nat) (sz ev : Nat) : List Value :=
  [vR, vF, .pointer (some ⟨tg, 0, none⟩), .pointer (some ⟨ug, 0, none⟩), .pointer (some ⟨wg, 0, none⟩)] ++ (F.flatMap eStp ++ (dV D ++ [.int .i64 c.most, .int .i64 c.bytes, .int .u64 c.keep, .int .i64 sz, .int .i64 ev]))
section
variable {vR vF : Value} {tg ug wg : Nat} {c : SC} {F : List Stp} {D : List Nat} {sz ev : Nat}
theorem fl_len (F : List Stp) : (F.flatMap eStp).length = F.length * 3 := by rw [flat_len flStp.len]; rfl
theorem dV_len (D : List Nat) : (dV D).length = D.length := List.length_map _
theorem sc_len (hF : F.length = 64) (hD : D.length = 64) : (sCells vR vF tg ug wg c F D sz ev).length = 266 := by
  unfold sCells
  simp only [List.length_append, fl_len, dV_len, hF, hD, List.length_cons, List.length_nil]
theorem sc_floor (hF : F.length = 64) {k j : Nat} {x : Stp} (hx : F[k]? = some x) (hj : j < 3) : (sCells vR vF tg ug wg c F D sz ev)[5 + (k * 3 + j)]? = (eStp x)[j]? := by
  unfold sCells
  have hk := (List.getElem?_eq_some_iff.1 hx).1
  rw [List.getElem?_append_right (by simp), List.getElem?_append_left (by rw [fl_len]; simp; omega), show 5 + (k * 3 + j) - [vR, vF, .pointer (some ⟨tg, 0, none⟩), .pointer (some ⟨ug, 0, none⟩), .pointer (some ⟨wg, 0, none⟩)].length = k * 3 + j by simp]
  exact flat_get flStp.len F k j x hx hj
theorem sc_tail (hF : F.length = 64) (j : Nat) : (sCells vR vF tg ug wg c F D sz ev)[197 + j]? = (dV D ++ [Value.int .i64 c.most, Value.int .i64 c.bytes, Value.int .u64 c.keep, Value.int .i64 sz, Value.int .i64 ev])[j]? := by
  unfold sCells
  rw [List.getElem?_append_right (by simp; omega), List.getElem?_append_right (by rw [fl_len, hF]; simp; omega)]
  congr 1
  rw [fl_len, hF]; simp; omega
theorem sc_dig (hF : F.length = 64) {k x : Nat} (hx : D[k]? = some x) : (sCells vR vF tg ug wg c F D sz ev)[197 + k]? = some (.int .u64 x) := by
  have hk := (List.getElem?_eq_some_iff.1 hx).1
  rw [sc_tail hF, List.getElem?_append_left (by rw [dV_len]; exact hk)]
  unfold dV
  rw [List.getElem?_map, hx]; rfl
theorem sc_end (hF : F.length = 64) (hD : D.length = 64) (j : Nat) : (sCells vR vF tg ug wg c F D sz ev)[261 + j]? = [Value.int .i64 c.most, .int .i64 c.bytes, .int .u64 c.keep, .int .i64 sz, .int .i64 ev][j]? := by
  rw [show 261 + j = 197 + (64 + j) by omega, sc_tail hF, List.getElem?_append_right (by rw [dV_len, hD]; omega), dV_len, hD]
  congr 1; omega
theorem sc_set0 (v : Value) : (sCells vR vF tg ug wg c F D sz ev).set 0 v = sCells v vF tg ug wg c F D sz ev := rfl
theorem sc_set1 (v : Value) : (sCells vR vF tg ug wg c F D sz ev).set 1 v = sCells vR v tg ug wg c F D sz ev := rfl
theorem sc_setTail (hF : F.length = 64) (j : Nat) (v : Value) : (sCells vR vF tg ug wg c F D sz ev).set (197 + j) v = [vR, vF, Value.pointer (some ⟨tg, 0, none⟩), Value.pointer (some ⟨ug, 0, none⟩), Value.pointer (some ⟨wg, 0, none⟩)] ++ (F.flatMap eStp ++ (dV D ++ [Value.int .i64 c.most, Value.int .i64 c.bytes, Value.int .u64 c.keep, Value.int .i64 sz, Value.int .i64 ev]).set j v) := by
  unfold sCells
  rw [List.set_append_right _ _ (by simp; omega), List.set_append_right _ _ (by rw [fl_len, hF]; simp; omega)]
  congr 3
  rw [fl_len, hF]; simp; omega
theorem dV_set (D : List Nat) (k x : Nat) : (dV D).set k (.int .u64 (x : Int)) = dV (D.set k x) := by
  unfold dV; rw [List.map_set]
theorem sc_setDig (hF : F.length = 64) {k : Nat} (hk : k < D.length) (x : Nat) : (sCells vR vF tg ug wg c F D sz ev).set (197 + k) (.int .u64 (x : Int)) = sCells vR vF tg ug wg c F (D.set k x) sz ev := by
  rw [sc_setTail hF, List.set_append_left _ _ (by rw [dV_len]; exact hk), dV_set]; rfl
theorem sc_setSize (hF : F.length = 64) (hD : D.length = 64) (x : Nat) : (sCells vR vF tg ug wg c F D sz ev).set 264 (.int .i64 (x : Int)) = sCells vR vF tg ug wg c F D x ev := by
  rw [show 264 = 197 + 67 by rfl, sc_setTail hF, List.set_append_right _ _ (by rw [dV_len, hD]; omega), dV_len, hD]; rfl
theorem sc_setEv (hF : F.length = 64) (hD : D.length = 64) (x : Nat) : (sCells vR vF tg ug wg c F D sz ev).set 265 (.int .i64 (x : Int)) = sCells vR vF tg ug wg c F D sz x := by
  rw [show 265 = 197 + 68 by rfl, sc_setTail hF, List.set_append_right _ _ (by rw [dV_len, hD]; omega), dV_len, hD]; rfl
theorem sc_setFloor (hF : F.length = 64) {k : Nat} (hk : k < 64) (x : Stp) : (sCells vR vF tg ug wg c F D sz ev).take (5 + k * 3) ++ eStp x ++ (sCells vR vF tg ug wg c F D sz ev).drop (5 + k * 3 + 3) = sCells vR vF tg ug wg c (F.set k x) D sz ev := by
  unfold sCells
  have h1 : (F.set k x).flatMap eStp = (F.flatMap eStp).take (k * 3) ++ eStp x ++ (F.flatMap eStp).drop (k * 3 + 3) := flat_set flStp.len F k x (by omega)
  have hl := fl_len F
  rw [hF] at hl
  rw [h1]
  rw [List.take_append, List.drop_append, List.take_of_length_le (l := [vR, vF, _, _, _]) (by simp), show List.drop (5 + k * 3 + 3) [vR, vF, .pointer (some ⟨tg, 0, none⟩), .pointer (some ⟨ug, 0, none⟩), .pointer (some ⟨wg, 0, none⟩)] = [] from List.drop_eq_nil_of_le (by simp only [List.length_cons, List.length_nil]; omega)]
  simp only [List.length_cons, List.length_nil]
  rw [show 5 + k * 3 - (0 + 1 + 1 + 1 + 1 + 1) = k * 3 by omega, show 5 + k * 3 + 3 - (0 + 1 + 1 + 1 + 1 + 1) = k * 3 + 3 by omega, List.take_append_of_le_length (by omega), List.drop_append_of_le_length (by omega)]
  simp only [List.append_assoc, List.nil_append, List.cons_append]
end
/-- What lies where, and by which addresses. -/
structure SD where
  vR : Value
  vF : Value
  tg : Nat
  ug : Nat
  bg : Nat
  wg : Nat
  Ft : Nat → Prop
  Fw : Nat → Prop
  d : PD
def ofFr (fr : List Nat) : List Int := fr.map fun (x : Nat) => (x : Int)
def sL (g : Nat) (c : SC) (s : SM) (x : SD) : List Asr :=
  [blk g (sCells x.vR x.vF x.tg x.ug x.wg c s.F x.d.D (szL s.L) s.ev).toArray 70, slc k37 37 x.vR x.d.R, slc (Kd.int .i64) 3 x.vF (ofFr x.d.fr), tO x.tg c.most x.Ft x.d.T, lA x.ug x.bg c.most x.d.o, wO x.wg x.Fw x.d.m, pureA (SI c s x.d)]
/-- The store at g. -/
def sO (g : Nat) (F : Nat → Prop) (c : SC) (s : SM) : Asr := Asr.ex F fun x => sL g c s x ++ [pureA (x.d.b = true)]
section
variable {F : Nat → Prop} {w0 w : World} {g : Nat} {c : SC} {s : SM} {x : SD} {M : List Asr}
theorem sL_si (h : St F w0 w (sL g c s x ++ M)) : SI c s x.d := h.get 6 rfl
theorem sL_cell (h : St F w0 w (sL g c s x ++ M)) (j : Nat) : w.cell? ⟨g, j, none⟩ = (sCells x.vR x.vF x.tg x.ug x.wg c s.F x.d.D (szL s.L) s.ev)[j]? := by
  rw [blk_cell (h.get 0 rfl) j, List.getElem?_toArray]
theorem sL_frozen (h : St F w0 w (sL g c s x ++ M)) (j : Nat) : w.frozen? ⟨g, j, none⟩ = false := blk_frozen (h.get 0 rfl) j
theorem sL_R (h : St F w0 w (sL g c s x ++ M)) : ∃ rb rc, x.vR = .slice (some ⟨rb, 0, none⟩) c.most rc := by
  have hI := sL_si h
  obtain ⟨b, k, hv, _⟩ := slc_form (h.get 1 rfl) (by have := hI.rl; have := hI.m1; omega)
  rw [hI.rl] at hv
  exact ⟨b, k, hv⟩
theorem sL_F (h : St F w0 w (sL g c s x ++ M)) : ∃ A k, x.vF = .slice A x.d.fr.length k := by
  obtain ⟨A, k, hv⟩ := Kd.R_slice (h.get 2 rfl).1
  unfold ofFr at hv
  rw [List.length_map] at hv
  exact ⟨A, k, hv⟩
theorem sL_rec (h : St F w0 w (sL g c s x ++ M)) {rb rc : Nat} (hv : x.vR = .slice (some ⟨rb, 0, none⟩) c.most rc) {p : Nat} {r : Rc} (hp : x.d.R[p]? = some r) (j : Nat) (hj : j < 8) : w.cell? ⟨rb, p * 8 + j, none⟩ = (eRc r)[j]? ∧ w.frozen? ⟨rb, p * 8 + j, none⟩ = false := by
  have h1 : (sL g c s x ++ M)[1]? = some (slc k37 37 (.slice (some ⟨rb, 0, none⟩) c.most rc) x.d.R) := by rw [← hv]; rfl
  exact h.elem flRc 1 h1 (i := p) (c := j) hp hj
end
end Go.Proofs.Ytecgnfklfgjgaaa
