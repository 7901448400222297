import Derived.Test.YtepceielndmjgaaSI
import Derived.Test.YtepceielndmjgaaSJ
import Derived.Test.YtepceielndmjgaaOpen
namespace Go.Proofs.Ytepceielndmjgaa
open Go.RowKit Go.Tat Go.Proofs.YtepceielndmjgaaW.PrintWords PSweepTells
theorem Try.cells41 : Try.prog.cellsOf 41 = k41.sz := by kernel_rfl
theorem Try.cells43 : Try.prog.cellsOf 43 = k43.sz := by kernel_rfl
def g39 (x : S39) : Prop := (Lit.int .u64 x.f0).wf = true ∧ (Lit.int .u32 x.f1).wf = true ∧ (Lit.int .u8 x.f2).wf = true
theorem opens39 : Opens Try.prog 39 k39 g39 := by
  have h := Opens.struct (P := Try.prog) (t := 39) (d := Kd.pair (Kd.int .u64) (Kd.pair (Kd.int .u32) (Kd.int .u8))) (g := fun p => (Lit.int .u64 p.1).wf = true ∧ (Lit.int .u32 p.2.1).wf = true ∧ (Lit.int .u8 p.2.2).wf = true) Try.underlying39 (by kernel_rfl)
    (OpensF.cons rfl (by kernel_rfl) (Opens.int (by kernel_rfl)) (OpensF.cons (by rfl) (by kernel_rfl) (Opens.int (by kernel_rfl)) (OpensF.one (by rfl) (by kernel_rfl) (Opens.int (by kernel_rfl))))) (fun x : S39 => (x.f0, x.f1, x.f2)) (fun p => ⟨p.1, p.2.1, p.2.2⟩) (fun p => rfl)
  exact .mk fun hx => let ⟨p, hg, hk⟩ := h.out hx; ⟨p, hg, hk⟩
def g41 (x : S41) : Prop := x.f0.size ≤ maxLen ∧ g39 x.f1 ∧ (Lit.int .u8 x.f2).wf = true ∧ (Lit.int .u32 x.f3).wf = true ∧ (Lit.int .u64 x.f4).wf = true ∧ x.f5.size ≤ maxLen
theorem opens41 : Opens Try.prog 41 k41 g41 := by
  have h := Opens.struct (P := Try.prog) (t := 41) (d := Kd.pair Kd.string (Kd.pair k39 (Kd.pair (Kd.int .u8) (Kd.pair (Kd.int .u32) (Kd.pair (Kd.int .u64) Kd.string)))))
    (g := fun p => p.1.size ≤ maxLen ∧ g39 p.2.1 ∧ (Lit.int .u8 p.2.2.1).wf = true ∧ (Lit.int .u32 p.2.2.2.1).wf = true ∧ (Lit.int .u64 p.2.2.2.2.1).wf = true ∧ p.2.2.2.2.2.size ≤ maxLen) Try.underlying41 (by kernel_rfl)
    (OpensF.cons rfl (by kernel_rfl) (Opens.string (by kernel_rfl)) (OpensF.cons (by rfl) (by kernel_rfl) opens39 (OpensF.cons (by rfl) (by kernel_rfl) (Opens.int (by kernel_rfl)) (OpensF.cons (by rfl) (by kernel_rfl) (Opens.int (by kernel_rfl)) (OpensF.cons (by rfl) (by kernel_rfl) (Opens.int (by kernel_rfl)) (OpensF.one (by rfl) (by kernel_rfl) (Opens.string (by kernel_rfl))))))))
    (fun x : S41 => (x.f0, x.f1, x.f2, x.f3, x.f4, x.f5)) (fun p => ⟨p.1, p.2.1, p.2.2.1, p.2.2.2.1, p.2.2.2.2.1, p.2.2.2.2.2⟩) (fun p => rfl)
  exact .mk fun hx => let ⟨p, hg, hk⟩ := h.out hx; ⟨p, hg, hk⟩
def g43 (x : S43) : Prop := x.f0.size ≤ maxLen ∧ g39 x.f1 ∧ (Lit.int .u8 x.f2).wf = true
theorem opens43 : Opens Try.prog 43 k43 g43 := by
  have h := Opens.struct (P := Try.prog) (t := 43) (d := Kd.pair Kd.string (Kd.pair k39 (Kd.int .u8))) (g := fun p => p.1.size ≤ maxLen ∧ g39 p.2.1 ∧ (Lit.int .u8 p.2.2).wf = true) Try.underlying43 (by kernel_rfl)
    (OpensF.cons rfl (by kernel_rfl) (Opens.string (by kernel_rfl)) (OpensF.cons (by rfl) (by kernel_rfl) opens39 (OpensF.one (by rfl) (by kernel_rfl) (Opens.int (by kernel_rfl))))) (fun x : S43 => (x.f0, x.f1, x.f2)) (fun p => ⟨p.1, p.2.1, p.2.2⟩) (fun p => rfl)
  exact .mk fun hx => let ⟨p, hg, hk⟩ := h.out hx; ⟨p, hg, hk⟩
end Go.Proofs.Ytepceielndmjgaa
namespace Go.Proofs.Ytepceielndmjgaa
open Go.RowKit Go.Tat Go.Proofs.YtepceielndmjgaaW.PrintWords PSweepTells
theorem any_take_succ {α : Type} {l : List α} {q : Nat} {y : α} (f : α → Bool) (h : l[q]? = some y) : (l.take (q + 1)).any f = ((l.take q).any f || f y) := by
  rw [List.take_add_one, h, List.any_append]
  simp
end Go.Proofs.Ytepceielndmjgaa
namespace Go.Proofs.Ytepceielndmjgaa
open Go.RowKit Go.Tat Go.Proofs.YtepceielndmjgaaW.PrintWords PSweepTells
/-! ### What is given to a row -/
def pickS (ps : List S41) (r : S41) : S41 := ps.foldl (fun r p => if p.f0.toList = r.f0.toList then p else r) r
def knownB (ms : List S41) (p : S41) : Bool := ms.any fun r => r.f0.toList == p.f0.toList
def giveL (ms ps : List S41) : List S41 := ms.map (pickS ps) ++ ps.filter fun p => !knownB ms p
theorem give_l1 (ms ps : List S41) (hp : ps.length ≤ 1000000) (out T : List S41) (hT : out.length ≤ 100000000) (x16 x17 : Int) (k : Nat) : ∀ d i (r : S41), i + d = ps.length →
    tattlerlaw15_give.l1 (d + k + 1) ms ps out T x16 x17 ps (ps.length : Int) (i : Int) r.f0 r.f1.f0 r.f1.f1 r.f1.f2 r.f2 r.f3 r.f4 r.f5 = tattlerlaw15_give.l0 k ms ps (out ++ [pickS (ps.drop i) r]) T x16 (wrap64 (x17 + 1))
  | 0, i, r, h => by
    have h1 : ¬ (i : Int) < (ps.length : Int) := by omega
    rw [show 0 + k + 1 = k + 1 from by omega, tattlerlaw15_give.l1, if_neg h1, if_pos (by omega), List.drop_eq_nil_of_le (by omega)]
    rfl
  | d + 1, i, r, h => by
    have h1 : (i : Int) < (ps.length : Int) := by omega
    have h2 : (0 : Int) ≤ (i : Int) := by omega
    have h4 : i < ps.length := by omega
    rw [show d + 1 + k + 1 = (d + k + 1) + 1 from by omega, tattlerlaw15_give.l1, if_pos h1, if_pos h2, if_pos h1, rd41 ps i h4, wrap64_succ h4 (by omega)]
    have hd : pickS (ps.drop i) r = pickS (ps.drop (i + 1)) (if (ps[i]).f0.toList = r.f0.toList then ps[i] else r) := by
      rw [List.drop_eq_getElem_cons h4]; rfl
    rw [hd]
    by_cases e : (ps[i]).f0.toList = r.f0.toList
    · rw [if_pos e, if_pos e]
      exact give_l1 ms ps hp out T hT x16 x17 k d (i + 1) (ps[i]) (by omega)
    · rw [if_neg e, if_neg e]
      exact give_l1 ms ps hp out T hT x16 x17 k d (i + 1) r (by omega)
theorem give_l0 (ms ps : List S41) (hm : ms.length ≤ 1000000) (hp : ps.length ≤ 1000000) (k : Nat) : ∀ d i (out : List S41), i + d = ms.length → out.length ≤ i →
    tattlerlaw15_give.l0 (k + d * (ps.length + 2) + 1) ms ps out ms (ms.length : Int) (i : Int) = tattlerlaw15_give.l2 (k + d * (ps.length + 2) - d * (ps.length + 2)) ms (out ++ (ms.drop i).map (pickS ps)) ps (ps.length : Int) 0
  | 0, i, out, h, _ => by
    have h1 : ¬ (i : Int) < (ms.length : Int) := by omega
    rw [tattlerlaw15_give.l0, if_neg h1, List.drop_eq_nil_of_le (by omega), List.map_nil, List.append_nil]
    simp
  | d + 1, i, out, h, ho => by
    have h1 : (i : Int) < (ms.length : Int) := by omega
    have h2 : (0 : Int) ≤ (i : Int) := by omega
    have h4 : i < ms.length := by omega
    have hk : k + (d + 1) * (ps.length + 2) = ps.length + (k + d * (ps.length + 2) + 1) + 1 := by rw [Nat.succ_mul]; omega
    rw [tattlerlaw15_give.l0, if_pos h1, if_pos h2, if_pos h1, rd41 ms i h4, hk]
    have h5 := give_l1 ms ps hp out ms (by omega) (ms.length : Int) (i : Int) (k + d * (ps.length + 2) + 1) ps.length 0 ms[i] (by omega)
    rw [List.drop_zero] at h5
    refine h5.trans ?_
    rw [wrap64_succ h4 (by omega), give_l0 ms ps hm hp k d (i + 1) _ (by omega) (by rw [List.length_append]; simp; omega), List.drop_eq_getElem_cons h4, List.map_cons, List.append_assoc, ← hk, Nat.add_sub_cancel, Nat.add_sub_cancel]
    rfl
theorem give_l3 (ms ps : List S41) (hm : ms.length ≤ 1000000) (out T : List S41) (hT : out.length ≤ 100000000) (x40 x41 : Int) (k : Nat) (p : S41) : ∀ d i (v : Bool), i + d = ms.length →
    tattlerlaw15_give.l3 (d + k + 1) ms out v T x40 x41 ms (ms.length : Int) (i : Int) p.f0 p.f1.f0 p.f1.f1 p.f1.f2 p.f2 p.f3 p.f4 p.f5 = tattlerlaw15_give.l2 k ms (if (v || knownB (ms.drop i) p) = true then out else out ++ [p]) T x40 (wrap64 (x41 + 1))
  | 0, i, v, h => by
    have h1 : ¬ (i : Int) < (ms.length : Int) := by omega
    rw [show 0 + k + 1 = k + 1 from by omega, tattlerlaw15_give.l3, if_neg h1, List.drop_eq_nil_of_le (by omega)]
    cases v with
    | true => rfl
    | false =>
      rw [if_neg (by decide), if_pos (by omega), if_neg (by simp [knownB])]
  | d + 1, i, v, h => by
    have h1 : (i : Int) < (ms.length : Int) := by omega
    have h2 : (0 : Int) ≤ (i : Int) := by omega
    have h4 : i < ms.length := by omega
    rw [show d + 1 + k + 1 = (d + k + 1) + 1 from by omega, tattlerlaw15_give.l3, if_pos h1, if_pos h2, if_pos h1, rd41 ms i h4, wrap64_succ h4 (by omega)]
    have hd : knownB (ms.drop i) p = ((ms[i]).f0.toList == p.f0.toList || knownB (ms.drop (i + 1)) p) := by
      rw [List.drop_eq_getElem_cons h4]; rfl
    rw [hd]
    cases v with
    | true =>
      rw [if_pos rfl]
      have := give_l3 ms ps hm out T hT x40 x41 k p d (i + 1) true (by omega)
      simpa using this
    | false =>
      rw [if_neg (by decide)]
      have := give_l3 ms ps hm out T hT x40 x41 k p d (i + 1) ((ms[i]).f0.toList == p.f0.toList) (by omega)
      rw [Bool.false_or]
      exact this
theorem give_l2 (ms ps : List S41) (hm : ms.length ≤ 1000000) (hp : ps.length ≤ 1000000) : ∀ d i k (out : List S41), i + d = ps.length → d * (ms.length + 2) < k → out.length ≤ 10000000 + i →
    tattlerlaw15_give.l2 k ms out ps (ps.length : Int) (i : Int) = some (out ++ (ps.drop i).filter fun p => !knownB ms p)
  | 0, i, k + 1, out, h, _, _ => by
    have h1 : ¬ (i : Int) < (ps.length : Int) := by omega
    rw [tattlerlaw15_give.l2, if_neg h1, List.drop_eq_nil_of_le (by omega), List.filter_nil, List.append_nil]
  | d + 1, i, k + 1, out, h, hk, ho => by
    have h1 : (i : Int) < (ps.length : Int) := by omega
    have h2 : (0 : Int) ≤ (i : Int) := by omega
    have h4 : i < ps.length := by omega
    rw [Nat.succ_mul] at hk
    obtain ⟨k', rfl⟩ : ∃ k', k = ms.length + k' + 1 := ⟨k - ms.length - 1, by omega⟩
    rw [tattlerlaw15_give.l2, if_pos h1, if_pos h2, if_pos h1, rd41 ps i h4]
    have h5 := give_l3 ms ps hm out ps (by omega) (ps.length : Int) (i : Int) k' ps[i] ms.length 0 false (by omega)
    rw [List.drop_zero, Bool.false_or] at h5
    refine h5.trans ?_
    rw [wrap64_succ h4 (by omega), List.drop_eq_getElem_cons h4]
    cases e : knownB ms ps[i] with
    | true =>
      rw [if_pos rfl, give_l2 ms ps hm hp d (i + 1) k' out (by omega) (by omega) (by omega), List.filter_cons_of_neg (by rw [e]; decide)]
    | false =>
      rw [if_neg (by decide), give_l2 ms ps hm hp d (i + 1) k' _ (by omega) (by omega) (by rw [List.length_append]; simp; omega), List.filter_cons_of_pos (by rw [e]; rfl), List.append_assoc]
      rfl
theorem give_is (ms ps : List S41) (hm : ms.length ≤ 1000000) (hp : ps.length ≤ 1000000) : tattlerlaw15_give.f (ps.length * (ms.length + 2) + 1 + ms.length * (ps.length + 2) + 1) ms ps = some (giveL ms ps) := by
  unfold tattlerlaw15_give.f
  have h0 := give_l0 ms ps hm hp (ps.length * (ms.length + 2) + 1) ms.length 0 [] (by omega) (Nat.le_refl _)
  refine h0.trans ?_
  rw [Nat.add_sub_cancel]
  have h2 := give_l2 ms ps hm hp ps.length 0 (ps.length * (ms.length + 2) + 1) ([] ++ (ms.drop 0).map (pickS ps)) (by omega) (by omega) (by simp; omega)
  exact h2
theorem giveL_len (ms ps : List S41) : (giveL ms ps).length ≤ ms.length + ps.length := by
  unfold giveL
  rw [List.length_append, List.length_map]
  have := List.length_filter_le (fun p => !knownB ms p) ps
  omega
theorem give_c (ms ps : List S41) (hm : ms.length ≤ 1000000) (hp : ps.length ≤ 1000000) (Am Ap : Option Addr) (cm cp : Nat) (w : World) (hM : k41.C w Am ms.length ms) (hcm : ms.length ≤ cm) (hP : k41.C w Ap ps.length ps) (hcp : ps.length ≤ cp) :
    Calls Try.prog 19 #[.slice Am ms.length cm, .slice Ap ps.length cp] w (recPost w (giveL ms ps)) := by
  refine (tattlerlaw15_give.calls _ Am cm ms Ap cp ps _ w hM hcm hP hcp (give_is ms ps hm hp)).mono ?_
  rintro e w' ⟨v, rfl, hR, hB⟩
  exact ⟨v, rfl, St.ofR hR rfl hB⟩
end Go.Proofs.Ytepceielndmjgaa
namespace Go.Proofs.Ytepceielndmjgaa
open Go.RowKit Go.Tat Go.Proofs.YtepceielndmjgaaW.PrintWords PSweepTells
/-! ### After a round both have the same -/
theorem ltS_asymm {a b : S43} (h : ltS a b) : ¬ ltS b a := by unfold ltS at *; omega
theorem ltS_same {a b : S43} (h0 : a.f0 = b.f0) (h : ¬ ltS a b) (h' : ¬ ltS b a) : a = b := by
  obtain ⟨k, ⟨p, l, n⟩, d⟩ := a
  obtain ⟨k', ⟨p', l', n'⟩, d'⟩ := b
  unfold ltS at h h'
  simp only at h h' h0
  have e1 : p = p' := by omega
  have e2 : l = l' := by omega
  have e3 : n = n' := by omega
  have e4 : d = d' := by omega
  subst e1 e2 e3 e4 h0
  rfl
theorem pickS_spec : ∀ (ps : List S41) (r : S41), (pickS ps r).f0 = r.f0 ∧ ((pickS ps r = r ∧ ∀ p ∈ ps, p.f0 ≠ r.f0) ∨ pickS ps r ∈ ps)
  | [], r => ⟨rfl, .inl ⟨rfl, fun p hp => absurd hp (List.not_mem_nil)⟩⟩
  | p :: ps, r => by
    have hstep : pickS (p :: ps) r = pickS ps (if p.f0.toList = r.f0.toList then p else r) := rfl
    by_cases e : p.f0.toList = r.f0.toList
    · have e' := toList_inj.1 e
      rw [hstep, if_pos e]
      obtain ⟨h1, h2⟩ := pickS_spec ps p
      refine ⟨h1.trans e', .inr ?_⟩
      rcases h2 with ⟨h, _⟩ | h
      · rw [h]; exact List.mem_cons_self ..
      · exact List.mem_cons_of_mem _ h
    · rw [hstep, if_neg e]
      obtain ⟨h1, h2⟩ := pickS_spec ps r
      refine ⟨h1, ?_⟩
      rcases h2 with ⟨h, hn⟩ | h
      · refine .inl ⟨h, fun q hq => ?_⟩
        rcases List.mem_cons.1 hq with rfl | hq
        · exact fun hk => e (toList_inj.2 hk)
        · exact hn q hq
      · exact .inr (List.mem_cons_of_mem _ h)
theorem known_iff (ms : List S41) (p : S41) : knownB ms p = true ↔ ∃ r ∈ ms, r.f0 = p.f0 := by
  unfold knownB
  rw [List.any_eq_true]
  simp only [beq_iff_eq, toList_inj]
theorem key_one {l : List S41} (h : (keys41 l).Nodup) {x y : S41} (hx : x ∈ l) (hy : y ∈ l) (e : x.f0 = y.f0) : x = y := by
  unfold keys41 at h
  induction l with
  | nil => exact absurd hx List.not_mem_nil
  | cons z l ih =>
    rw [List.map_cons, List.nodup_cons] at h
    rcases List.mem_cons.1 hx with hx1 | hx1 <;> rcases List.mem_cons.1 hy with hy1 | hy1
    · rw [hx1, hy1]
    · exact absurd (List.mem_map.2 ⟨y, hy1, by rw [← e, hx1]⟩ : z.f0 ∈ l.map fun r => r.f0) h.1
    · exact absurd (List.mem_map.2 ⟨x, hx1, by rw [e, hy1]⟩ : z.f0 ∈ l.map fun r => r.f0) h.1
    · exact ih h.2 hx1 hy1
/-- The best that is seen of a key in either row. -/
def TopS (a b : List S41) (s : S43) : Prop := (s ∈ a.map seenS ∨ s ∈ b.map seenS) ∧ (∀ r ∈ a, r.f0 = s.f0 → ¬ ltS s (seenS r)) ∧ ∀ r ∈ b, r.f0 = s.f0 → ¬ ltS s (seenS r)
theorem TopS_comm (a b : List S41) (s : S43) : TopS a b s ↔ TopS b a s := ⟨fun ⟨h, h1, h2⟩ => ⟨h.symm, h2, h1⟩, fun ⟨h, h1, h2⟩ => ⟨h.symm, h2, h1⟩⟩
theorem push_mem (a b : List S41) (r : S41) : r ∈ pushL b (a.map seenS) ↔ r ∈ b ∧ ∀ q ∈ a, q.f0 = r.f0 → ltS (seenS q) (seenS r) := by
  rw [pushL_cov, List.mem_filter]
  refine and_congr_right fun _ => ?_
  rw [Bool.not_eq_true', ← Bool.not_eq_true, covB_iff]
  constructor
  · intro h q hq hk
    exact Classical.not_not.1 fun hn => h ⟨seenS q, List.mem_map.2 ⟨q, hq, rfl⟩, hk, hn⟩
  · rintro h ⟨x, hx, hk, hn⟩
    obtain ⟨q, hq, rfl⟩ := List.mem_map.1 hx
    exact hn (h q hq hk)
theorem give_top (a b : List S41) (ha : (keys41 a).Nodup) (hb : (keys41 b).Nodup) (s : S43) : s ∈ (giveL a (pushL b (a.map seenS))).map seenS ↔ TopS a b s := by
  obtain ⟨P, hP⟩ : ∃ P, pushL b (a.map seenS) = P := ⟨_, rfl⟩
  have hmem : ∀ r, r ∈ P ↔ r ∈ b ∧ ∀ q ∈ a, q.f0 = r.f0 → ltS (seenS q) (seenS r) := fun r => by rw [← hP]; exact push_mem a b r
  rw [hP]
  clear hP
  have hPT : ∀ p ∈ P, TopS a b (seenS p) := fun p hp => by
    obtain ⟨h1, h2⟩ := (hmem p).1 hp
    refine ⟨.inr (List.mem_map.2 ⟨p, h1, rfl⟩), fun r hr hk => ltS_asymm (h2 r hr hk), fun r hr hk => ?_⟩
    rw [key_one hb hr h1 hk]
    exact ltS_irrefl _
  unfold giveL
  rw [List.map_append, List.mem_append]
  constructor
  · rintro (h | h)
    · obtain ⟨r, hr, rfl⟩ := List.mem_map.1 h
      obtain ⟨r0, hr0, rfl⟩ := List.mem_map.1 hr
      obtain ⟨hk, h⟩ := pickS_spec P r0
      rcases h with ⟨h, hn⟩ | h
      · rw [h]
        refine ⟨.inl (List.mem_map.2 ⟨r0, hr0, rfl⟩), fun q hq hqk => ?_, fun q hq hqk => ?_⟩
        · rw [key_one ha hq hr0 hqk]; exact ltS_irrefl _
        · intro hlt
          refine hn q ((hmem q).2 ⟨hq, fun x hx hxk => ?_⟩) hqk
          rw [key_one ha hx hr0 (hxk.trans hqk)]
          exact hlt
      · exact hPT _ h
    · obtain ⟨p, hp, rfl⟩ := List.mem_map.1 h
      exact hPT p (List.mem_filter.1 hp).1
  · rintro ⟨h, hta, htb⟩
    rcases h with h | h
    · obtain ⟨r0, hr0, rfl⟩ := List.mem_map.1 h
      obtain ⟨hk, h⟩ := pickS_spec P r0
      rcases h with ⟨h, hn⟩ | h
      · exact .inl (List.mem_map.2 ⟨_, List.mem_map.2 ⟨r0, hr0, rfl⟩, by rw [h]⟩)
      · obtain ⟨h1, h2⟩ := (hmem _).1 h
        exact absurd (h2 r0 hr0 hk.symm) (htb _ h1 hk)
    · obtain ⟨q, hq, rfl⟩ := List.mem_map.1 h
      by_cases hex : ∃ r0 ∈ a, r0.f0 = q.f0
      · obtain ⟨r0, hr0, hk0⟩ := hex
        refine .inl (List.mem_map.2 ⟨_, List.mem_map.2 ⟨r0, hr0, rfl⟩, ?_⟩)
        obtain ⟨hk, h⟩ := pickS_spec P r0
        rcases h with ⟨h, hn⟩ | h
        · rw [h]
          have hnlt : ¬ ltS (seenS r0) (seenS q) := fun hlt => hn q ((hmem q).2 ⟨hq, fun x hx hxk => by rw [key_one ha hx hr0 (hxk.trans hk0.symm)]; exact hlt⟩) hk0.symm
          exact ltS_same hk0 hnlt (hta r0 hr0 hk0)
        · rw [key_one hb ((hmem _).1 h).1 hq (hk.trans hk0)]
      · have hqP : q ∈ P := (hmem q).2 ⟨hq, fun x hx hxk => absurd ⟨x, hx, hxk⟩ hex⟩
        refine .inr (List.mem_map.2 ⟨q, List.mem_filter.2 ⟨hqP, ?_⟩, rfl⟩)
        cases e : knownB a q with
        | true => exact absurd ((known_iff a q).1 e) hex
        | false => rfl
theorem give_nodup (a b : List S41) (ha : (keys41 a).Nodup) (hb : (keys41 b).Nodup) : (keys41 (giveL a (pushL b (a.map seenS)))).Nodup := by
  have hPn : (keys41 (pushL b (a.map seenS))).Nodup := (List.filter_sublist.map _).nodup hb
  generalize pushL b (a.map seenS) = P at *
  unfold giveL keys41 at *
  rw [List.map_append, List.nodup_append]
  have e : (a.map (pickS P)).map (fun r => r.f0) = a.map fun r => r.f0 := by
    rw [List.map_map]
    exact List.map_congr_left fun r _ => (pickS_spec P r).1
  refine ⟨?_, (List.filter_sublist.map _).nodup hPn, ?_⟩
  · rw [show List.map (fun r => r.f0) (List.map (pickS P) a) = _ from e]; exact ha
  · intro k hk k' hk' hkk
    rw [show List.map (fun r => r.f0) (List.map (pickS P) a) = _ from e] at hk
    obtain ⟨r, hr, rfl⟩ := List.mem_map.1 hk
    obtain ⟨p, hp, rfl⟩ := List.mem_map.1 hk'
    have h := (List.mem_filter.1 hp).2
    rw [(known_iff a p).2 ⟨r, hr, hkk⟩] at h
    exact absurd h (by decide)
theorem both_same (a b : List S41) (ha : (keys41 a).Nodup) (hb : (keys41 b).Nodup) (s : S43) : s ∈ (giveL a (pushL b (a.map seenS))).map seenS ↔ s ∈ (giveL b (pushL a (b.map seenS))).map seenS := by
  rw [give_top a b ha hb, give_top b a hb ha, TopS_comm]
theorem both_len (a b : List S41) (ha : (keys41 a).Nodup) (hb : (keys41 b).Nodup) : (giveL a (pushL b (a.map seenS))).length = (giveL b (pushL a (b.map seenS))).length := by
  have hs := both_same a b ha hb
  have n1 := give_nodup a b ha hb
  have n2 := give_nodup b a hb ha
  generalize giveL a (pushL b (a.map seenS)) = x at *
  generalize giveL b (pushL a (b.map seenS)) = y at *
  have hk : ∀ (z : List S41) k, k ∈ keys41 z ↔ ∃ s ∈ z.map seenS, s.f0 = k := fun z k => by
    unfold keys41
    rw [List.mem_map]
    constructor
    · rintro ⟨r, hr, rfl⟩; exact ⟨seenS r, List.mem_map.2 ⟨r, hr, rfl⟩, rfl⟩
    · rintro ⟨s, hs, rfl⟩
      obtain ⟨r, hr, rfl⟩ := List.mem_map.1 hs
      exact ⟨r, hr, rfl⟩
  have hp := (List.perm_ext_iff_of_nodup n1 n2).2 fun k => by
    rw [hk, hk]
    exact exists_congr fun s => and_congr_left fun _ => hs s
  have := hp.length_eq
  unfold keys41 at this
  rwa [List.length_map, List.length_map] at this
theorem push_same (x y : List S41) (h : ∀ s, s ∈ x.map seenS ↔ s ∈ y.map seenS) : pushL x (y.map seenS) = [] := by
  rw [pushL_cov, List.filter_eq_nil_iff]
  intro r hr
  have : covB (y.map seenS) (seenS r) = true := (covB_iff _ _).2 ⟨seenS r, (h _).1 (List.mem_map.2 ⟨r, hr, rfl⟩), rfl, ltS_irrefl _⟩
  simp [this]
theorem pull_same (x y : List S41) (h : ∀ s, s ∈ x.map seenS ↔ s ∈ y.map seenS) : rpullL x (y.map seenS) = [] := by
  rw [List.eq_nil_iff_forall_not_mem]
  intro k hk
  obtain ⟨t, ht, hk, h'⟩ := (rpullL_mem _ _ _).1 hk
  obtain ⟨r, hr, rfl⟩ := List.mem_map.1 ((h t).2 ht)
  exact ltS_irrefl _ (h' r hr hk)
end Go.Proofs.Ytepceielndmjgaa
namespace Go.Proofs.Ytepceielndmjgaa
open Go.RowKit Go.Tat Go.Proofs.YtepceielndmjgaaW.PrintWords PSweepTells
def eqB (x y : S41) : Bool := y.f0.toList == x.f0.toList && ((decide (y.f1.f0 = x.f1.f0) && (decide (y.f1.f1 = x.f1.f1) && decide (y.f1.f2 = x.f1.f2))) && decide (y.f2 = x.f2))
set_option maxRecDepth 100000 in
set_option maxHeartbeats 16000000 in
theorem both_c (a b : List S41) (Aa Ab : Option Addr) (ca cb : Nat) (W : World) (hA : k41.C W Aa a.length a) (hB : k41.C W Ab b.length b) (hca : a.length ≤ ca) (hcb : b.length ≤ cb) :
    Calls Try.prog 4 #[.slice Aa a.length ca, .slice Ab b.length cb] W fun e w' => e = .returned (.bool true) ∧ Below W.heap.size W w' := by
  have HC := Lib.hid (And.intro hA (And.intro hB (And.intro hca hcb)))
  obtain ⟨u, hu, HU⟩ := unlike_c a Aa ca W hA hca
  have HU := Lib.hid HU
  have Hu := Lib.hid hu
  clear hA hB hca hcb hu
  go_enter Try.func4, Try.ntmps4
  go_wp2_with fail
  refine HU.out.mono ?_
  rintro e w1 ⟨rfl, d1⟩
  have HB1 := Lib.hid d1.below
  clear d1 HU
  cases u with
  | false =>
    clear Hu
    go_wp2_with fail
    refine (fixed_c w1).mono ?_
    rintro e w2 ⟨rfl, b2⟩
    have HB2 := Lib.hid (HB1.out.trans (b2.mono HB1.out.size))
    clear b2 HB1
    go_wp2_with fail
    go_ret
    exact ⟨rfl, HB2.out⟩
  | true =>
    have hUa := Hu.out rfl
    have hal := hUa.len
    have HUa := Lib.hid hUa
    obtain ⟨g, hg, HG⟩ := unlike_c b Ab cb w1 (Kd.C_below HC.out.2.1 HB1.out) HC.out.2.2.2
    have HG := Lib.hid HG
    have Hg := Lib.hid hg
    clear hg Hu hUa
    go_wp2_with fail
    refine HG.out.mono ?_
    rintro e w2 ⟨rfl, d2⟩
    have HB2 := Lib.hid (HB1.out.trans (d2.below.mono HB1.out.size))
    clear d2 HB1 HG
    cases g with
    | false =>
      clear Hg
      go_wp2_with fail
      refine (fixed_c w2).mono ?_
      rintro e w3 ⟨rfl, b3⟩
      have HB3 := Lib.hid (HB2.out.trans (b3.mono HB2.out.size))
      clear b3 HB2
      go_wp2_with fail
      go_ret
      exact ⟨rfl, HB3.out⟩
    | true =>
      have hUb := Hg.out rfl
      have hbl := hUb.len
      have HUb := Lib.hid hUb
      clear Hg hUb
      have hsame := both_same a b HUa.out.nd HUb.out.nd
      have hlen := both_len a b HUa.out.nd HUb.out.nd
      have hp1 : (pushL b (a.map seenS)).length ≤ 60 := Nat.le_trans (List.length_filter_le _ _) hbl
      have hp2 : (pushL a (b.map seenS)).length ≤ 60 := Nat.le_trans (List.length_filter_le _ _) hal
      have hx := giveL_len a (pushL b (a.map seenS))
      have hy := giveL_len b (pushL a (b.map seenS))
      obtain ⟨sa, hsa⟩ : ∃ sa, a.map seenS = sa := ⟨_, rfl⟩
      obtain ⟨sb, hsb⟩ : ∃ sb, b.map seenS = sb := ⟨_, rfl⟩
      rw [hsa] at hp1
      rw [hsb] at hp2
      rw [hsa, hsb] at hsame hlen
      rw [hsa] at hx
      rw [hsb] at hy
      obtain ⟨pb, hpb⟩ : ∃ pb, pushL b sa = pb := ⟨_, rfl⟩
      obtain ⟨pa, hpa⟩ : ∃ pa, pushL a sb = pa := ⟨_, rfl⟩
      rw [hpb] at hp1 hx
      rw [hpa] at hp2 hy
      rw [hpb, hpa] at hsame hlen
      obtain ⟨X, hX⟩ : ∃ X, giveL a pb = X := ⟨_, rfl⟩
      obtain ⟨Y, hY⟩ : ∃ Y, giveL b pa = Y := ⟨_, rfl⟩
      rw [hX] at hx
      rw [hY] at hy
      rw [hX, hY] at hsame hlen
      have HLN := Lib.hid hlen
      have HPS := Lib.hid (push_same X Y hsame)
      have HPP := Lib.hid (pull_same X Y hsame)
      have HSM := Lib.hid hsame
      have HSA := Lib.hid hsa
      have HSB := Lib.hid hsb
      have HPB := Lib.hid hpb
      have HPA := Lib.hid hpa
      have HX := Lib.hid hX
      have HY := Lib.hid hY
      have hxl : X.length ≤ 120 := by omega
      have hyl : Y.length ≤ 120 := by omega
      have hle : (X.length : Int) = (Y.length : Int) := by omega
      clear hsa hsb hpb hpa hX hY hsame hx hy
      go_wp2_with fail
      refine (sum_c a (by omega) Aa ca w2 (Kd.C_below HC.out.1 HB2.out) HC.out.2.2.1).mono ?_
      rw [HSA.out]
      rintro e w3 ⟨v3, rfl, S3⟩
      obtain ⟨A3, c3, rfl⟩ := Kd.R_slice (S3.get 0 rfl).1
      have HB3 := Lib.hid (HB2.out.trans (S3.base.mono HB2.out.size))
      have H3 := Lib.hid S3
      clear S3 HB2
      go_wp2_with fail
      refine (push_c b sa Ab A3 cb c3 w3 (Kd.C_below HC.out.2.1 HB3.out) (Kd.R_reads' (H3.out.get 0 rfl).1).2.2 (by omega)).mono ?_
      rw [HPB.out]
      rintro e w4 ⟨v4, rfl, S4⟩
      obtain ⟨A4, c4, rfl⟩ := Kd.R_slice (S4.get 0 rfl).1
      have HB4 := Lib.hid (HB3.out.trans (S4.base.mono HB3.out.size))
      have HB4x := HB4
      have H4 := Lib.hid S4
      clear S4 HB3 H3
      go_wp2_with fail
      have r4 := Kd.R_reads' (H4.out.get 0 rfl).1
      refine (give_c a pb (by omega) (by omega) Aa A4 ca c4 w4 (Kd.C_below HC.out.1 HB4.out) HC.out.2.2.1 r4.2.2 r4.2.1).mono ?_
      clear r4
      rw [HX.out]
      rintro e w5 ⟨v5, rfl, S5⟩
      obtain ⟨A5, c5, rfl⟩ := Kd.R_slice (S5.get 0 rfl).1
      have HB5 := Lib.hid (HB4.out.trans (S5.base.mono HB4.out.size))
      have H5 := Lib.hid S5
      clear S5 HB4 H4
      go_wp2_with fail
      refine (sum_c b (by omega) Ab cb w5 (Kd.C_below HC.out.2.1 HB5.out) HC.out.2.2.2).mono ?_
      rw [HSB.out]
      rintro e w6 ⟨v6, rfl, S6⟩
      obtain ⟨A6, c6, rfl⟩ := Kd.R_slice (S6.get 0 rfl).1
      have HB6 := Lib.hid (HB5.out.trans (S6.base.mono HB5.out.size))
      have H6 := Lib.hid (H5.out.adds S6)
      clear S6 HB5 H5
      go_wp2_with fail
      refine (push_c a sb Aa A6 ca c6 w6 (Kd.C_below HC.out.1 HB6.out) (Kd.R_reads' (H6.out.get 1 rfl).1).2.2 (by omega)).mono ?_
      rw [HPA.out]
      rintro e w7 ⟨v7, rfl, S7⟩
      obtain ⟨A7, c7, rfl⟩ := Kd.R_slice (S7.get 0 rfl).1
      have HB7 := Lib.hid (HB6.out.trans (S7.base.mono HB6.out.size))
      have H7 := Lib.hid ((H6.out.adds S7).drop 1)
      clear S7 HB6 H6
      go_wp2_with fail
      have r7 := Kd.R_reads' (H7.out.get 1 rfl).1
      refine (give_c b pa (by omega) (by omega) Ab A7 cb c7 w7 (Kd.C_below HC.out.2.1 HB7.out) HC.out.2.2.2 r7.2.2 r7.2.1).mono ?_
      clear r7
      rw [HY.out]
      rintro e w8 ⟨v8, rfl, S8⟩
      obtain ⟨A8, c8, rfl⟩ := Kd.R_slice (S8.get 0 rfl).1
      have HB8 := Lib.hid (HB7.out.trans (S8.base.mono HB7.out.size))
      have H8 := Lib.hid ((H7.out.adds S8).drop 1)
      clear S8 HB7 H7
      obtain ⟨w5', hw5⟩ : ∃ w', w4 = w' := ⟨_, rfl⟩
      go_wp2_with fail
      go_loopg [40] (X.length + 1) (fun m v40 wx => ∃ j : Nat, v40 = .int .i64 j ∧ j ≤ X.length ∧ X.length - j < m ∧ St (fun _ => False) w4 wx [slc k41 41 (.slice A5 X.length c5) X, slc k41 41 (.slice A8 Y.length c8) Y])
      case atStart => exact ⟨0, rfl, by omega, by omega, H8.out⟩
      case round =>
        clear H8 hw5
        obtain ⟨j, rfl, hj, hjm, S9⟩ := hrel
        by_cases hjl : j < X.length
        · have hjl' : (j : Int) < (Y.length : Int) := by omega
          have hj0 : (0 : Int) ≤ (j : Int) := by omega
          obtain ⟨x, hx⟩ : ∃ x, X[j]? = some x := ⟨_, List.getElem?_eq_getElem hjl⟩
          have hall : (Y.any fun y => eqB x y) = true := by
            obtain ⟨y, hy, e⟩ := List.mem_map.1 ((HSM.out (seenS x)).1 (List.mem_map.2 ⟨x, List.mem_of_getElem? hx, rfl⟩))
            rw [List.any_eq_true]
            refine ⟨y, hy, ?_⟩
            have e0 : y.f0 = x.f0 := congrArg S43.f0 e
            have e1 : y.f1 = x.f1 := congrArg S43.f1 e
            have e2 : y.f2 = x.f2 := congrArg S43.f2 e
            unfold eqB
            rw [e0, e1, e2]
            simp
          have HA := Lib.hid hall
          clear hall
          obtain ⟨gL, cL', hv, _, hcL⟩ := slc_form (S9.get 0 rfl) (by omega)
          injection hv with hv1 hvl hv2
          subst hv1; subst hv2
          have E0 : ∀ c, c < 8 → wr.cell? ⟨gL, j * 8 + c, none⟩ = (e41 x)[c]? ∧ wr.frozen? ⟨gL, j * 8 + c, none⟩ = false := fun c hc => (S9.elem fl41 0 rfl (i := j) (c := c) hx hc)
          obtain ⟨xk, ⟨xp, xl, xn⟩, xd, xf, xe, xb⟩ := x
          have u0 : wr.cell? ⟨gL, j * 8, none⟩ = some (.string xk) := (E0 0 (by decide)).1
          have u1 : wr.cell? ⟨gL, j * 8 + 1, none⟩ = some (.int .u64 xp) := (E0 1 (by decide)).1
          have u2 : wr.cell? ⟨gL, j * 8 + 2, none⟩ = some (.int .u32 xl) := (E0 2 (by decide)).1
          have u3 : wr.cell? ⟨gL, j * 8 + 3, none⟩ = some (.int .u8 xn) := (E0 3 (by decide)).1
          have u4 : wr.cell? ⟨gL, j * 8 + 4, none⟩ = some (.int .u8 xd) := (E0 4 (by decide)).1
          have u5 : wr.cell? ⟨gL, j * 8 + 5, none⟩ = some (.int .u32 xf) := (E0 5 (by decide)).1
          have u6 : wr.cell? ⟨gL, j * 8 + 6, none⟩ = some (.int .u64 xe) := (E0 6 (by decide)).1
          have u7 : wr.cell? ⟨gL, j * 8 + 7, none⟩ = some (.string xb) := (E0 7 (by decide)).1
          have H9 := Lib.hid S9
          have HI := Lib.hid (And.intro hj hjm)
          clear S9 E0 hx hvl hcL hj hjm
          go_upto_region 10 with fail
          have S10 := H9.out.new' #[.string xk, .int .u64 xp, .int .u32 xl, .int .u8 xn, .int .u8 xd, .int .u32 xf, .int .u64 xe, .string xb] 41 wr.heap.size rfl
          obtain ⟨z1, hz⟩ : ∃ z, wr.heap.size = z := ⟨_, rfl⟩
          rw [hz] at S10 ⊢
          clear hz
          generalize World.alloc wr _ = w9 at *
          have H10 := Lib.hid S10
          clear S10 H9 u0 u1 u2 u3 u4 u5 u6 u7
          go_wp2_with fail
          go_loopg [9, 46] (Y.length + 1) (fun m v9 v46 wx => ∃ q : Nat, v46 = .int .i64 q ∧ v9 = .bool ((Y.take q).any fun y => eqB ⟨xk, ⟨xp, xl, xn⟩, xd, xf, xe, xb⟩ y) ∧ q ≤ Y.length ∧ Y.length - q < m ∧ St (fun _ => False) w4 wx [slc k41 41 (.slice (some ⟨gL, 0, none⟩) X.length c5) X, slc k41 41 (.slice A8 Y.length c8) Y, blk z1 #[.string xk, .int .u64 xp, .int .u32 xl, .int .u8 xn, .int .u8 xd, .int .u32 xf, .int .u64 xe, .string xb] 41])
          case atStart => exact ⟨0, rfl, by simp, by omega, by omega, H10.out⟩
          case round =>
            clear H10
            obtain ⟨q, rfl, rfl, hq, hqm, S11⟩ := hrel
            by_cases hql : q < Y.length
            · have hql' : (q : Int) < (Y.length : Int) := by omega
              have hq0 : (0 : Int) ≤ (q : Int) := by omega
              obtain ⟨y, hy⟩ : ∃ y, Y[q]? = some y := ⟨_, List.getElem?_eq_getElem hql⟩
              have hms := Lib.hid (any_take_succ (eqB ⟨xk, ⟨xp, xl, xn⟩, xd, xf, xe, xb⟩) hy)
              obtain ⟨gP, cP', hv, _, hcP⟩ := slc_form (S11.get 1 rfl) (by omega)
              injection hv with hv1 hvl hv2
              subst hv1; subst hv2
              have E0 : ∀ c, c < 8 → wr.cell? ⟨gP, q * 8 + c, none⟩ = (e41 y)[c]? ∧ wr.frozen? ⟨gP, q * 8 + c, none⟩ = false := fun c hc => (S11.elem fl41 1 rfl (i := q) (c := c) hy hc)
              obtain ⟨yk, ⟨yp, yl, yn⟩, yd, yf, ye, yb⟩ := y
              have u0 : wr.cell? ⟨gP, q * 8, none⟩ = some (.string yk) := (E0 0 (by decide)).1
              have u1 : wr.cell? ⟨gP, q * 8 + 1, none⟩ = some (.int .u64 yp) := (E0 1 (by decide)).1
              have u2 : wr.cell? ⟨gP, q * 8 + 2, none⟩ = some (.int .u32 yl) := (E0 2 (by decide)).1
              have u3 : wr.cell? ⟨gP, q * 8 + 3, none⟩ = some (.int .u8 yn) := (E0 3 (by decide)).1
              have u4 : wr.cell? ⟨gP, q * 8 + 4, none⟩ = some (.int .u8 yd) := (E0 4 (by decide)).1
              have u5 : wr.cell? ⟨gP, q * 8 + 5, none⟩ = some (.int .u32 yf) := (E0 5 (by decide)).1
              have u6 : wr.cell? ⟨gP, q * 8 + 6, none⟩ = some (.int .u64 ye) := (E0 6 (by decide)).1
              have u7 : wr.cell? ⟨gP, q * 8 + 7, none⟩ = some (.string yb) := (E0 7 (by decide)).1
              have H11 := Lib.hid S11
              have HQ := Lib.hid (And.intro hq hqm)
              clear S11 E0 hy hvl hcP hq hqm
              cases hin : (Y.take q).any fun y => eqB ⟨xk, ⟨xp, xl, xn⟩, xd, xf, xe, xb⟩ y with
              | true =>
                have HIN := Lib.hid hin
                clear hin
                go_upto_region 14 with fail
                have S12 := H11.out.new' #[.string yk, .int .u64 yp, .int .u32 yl, .int .u8 yn, .int .u8 yd, .int .u32 yf, .int .u64 ye, .string yb] 41 wr.heap.size rfl
                obtain ⟨z2, hz⟩ : ∃ z, wr.heap.size = z := ⟨_, rfl⟩
                rw [hz] at S12 ⊢
                clear hz
                generalize World.alloc wr _ = w10 at *
                have H12 := Lib.hid S12
                clear S12 H11 u0 u1 u2 u3 u4 u5 u6 u7
                go_wp2_with fail
                go_roundg (Y.length - q)
                case measure => have := HQ.out; omega
                case rel =>
                  have := HQ.out
                  exact ⟨q + 1, by go_num, by rw [hms.out, HIN.out]; rfl, by omega, by omega, H12.out.drop 3⟩
              | false =>
                have HIN := Lib.hid hin
                clear hin
                go_upto_region 14 with fail
                have S12 := H11.out.new' #[.string yk, .int .u64 yp, .int .u32 yl, .int .u8 yn, .int .u8 yd, .int .u32 yf, .int .u64 ye, .string yb] 41 wr.heap.size rfl
                obtain ⟨z2, hz⟩ : ∃ z, wr.heap.size = z := ⟨_, rfl⟩
                rw [hz] at S12 ⊢
                clear hz
                generalize World.alloc wr _ = w10 at *
                clear u0 u1 u2 u3 u4 u5 u6 u7
                have d0 : w10.cell? ⟨z1, 0, none⟩ = some (.string xk) := S12.cell 2 rfl 0
                have d1 : w10.cell? ⟨z1, 1, none⟩ = some (.int .u64 xp) := S12.cell 2 rfl 1
                have d2 : w10.cell? ⟨z1, 2, none⟩ = some (.int .u32 xl) := S12.cell 2 rfl 2
                have d3 : w10.cell? ⟨z1, 3, none⟩ = some (.int .u8 xn) := S12.cell 2 rfl 3
                have d4 : w10.cell? ⟨z1, 4, none⟩ = some (.int .u8 xd) := S12.cell 2 rfl 4
                have t0 : w10.cell? ⟨z2, 0, none⟩ = some (.string yk) := S12.cell 3 rfl 0
                have t1 : w10.cell? ⟨z2, 1, none⟩ = some (.int .u64 yp) := S12.cell 3 rfl 1
                have t2 : w10.cell? ⟨z2, 2, none⟩ = some (.int .u32 yl) := S12.cell 3 rfl 2
                have t3 : w10.cell? ⟨z2, 3, none⟩ = some (.int .u8 yn) := S12.cell 3 rfl 3
                have t4 : w10.cell? ⟨z2, 4, none⟩ = some (.int .u8 yd) := S12.cell 3 rfl 4
                have H12 := Lib.hid S12
                clear S12 H11
                have hval : eqB ⟨xk, ⟨xp, xl, xn⟩, xd, xf, xe, xb⟩ ⟨yk, ⟨yp, yl, yn⟩, yd, yf, ye, yb⟩ = (yk.toList == xk.toList && ((decide (yp = xp) && (decide (yl = xl) && decide (yn = xn))) && decide (yd = xd))) := rfl
                have HV := Lib.hid hval
                clear hval
                by_cases e0 : yk.toList = xk.toList
                · have e0' : (yk.toList == xk.toList) = true := by simp [e0]
                  by_cases ep : yp = xp
                  · subst ep
                    by_cases el : yl = xl
                    · subst el
                      by_cases en : yn = xn
                      · subst en
                        by_cases ed : yd = xd
                        · subst ed
                          go_wp2_with fail
                          go_roundg (Y.length - q)
                          case measure => have := HQ.out; omega
                          case rel =>
                            have := HQ.out
                            exact ⟨q + 1, by go_num, by rw [hms.out, HIN.out, HV.out, e0']; simp, by omega, by omega, H12.out.drop 3⟩
                        · go_wp2_with fail
                          go_roundg (Y.length - q)
                          case measure => have := HQ.out; omega
                          case rel =>
                            have := HQ.out
                            exact ⟨q + 1, by go_num, by rw [hms.out, HIN.out, HV.out, e0']; simp [ed], by omega, by omega, H12.out.drop 3⟩
                      · go_wp2_with fail
                        go_roundg (Y.length - q)
                        case measure => have := HQ.out; omega
                        case rel =>
                          have := HQ.out
                          exact ⟨q + 1, by go_num, by rw [hms.out, HIN.out, HV.out, e0']; simp [en], by omega, by omega, H12.out.drop 3⟩
                    · go_wp2_with fail
                      go_roundg (Y.length - q)
                      case measure => have := HQ.out; omega
                      case rel =>
                        have := HQ.out
                        exact ⟨q + 1, by go_num, by rw [hms.out, HIN.out, HV.out, e0']; simp [el], by omega, by omega, H12.out.drop 3⟩
                  · go_wp2_with fail
                    go_roundg (Y.length - q)
                    case measure => have := HQ.out; omega
                    case rel =>
                      have := HQ.out
                      exact ⟨q + 1, by go_num, by rw [hms.out, HIN.out, HV.out, e0']; simp [ep], by omega, by omega, H12.out.drop 3⟩
                · have e0' : (yk.toList == xk.toList) = false := by simp [e0]
                  go_wp2_with fail
                  go_roundg (Y.length - q)
                  case measure => have := HQ.out; omega
                  case rel =>
                    have := HQ.out
                    exact ⟨q + 1, by go_num, by rw [hms.out, HIN.out, HV.out, e0']; simp, by omega, by omega, H12.out.drop 3⟩
            · have hqe : q = Y.length := by omega
              subst hqe
              have hql' : ¬ ((Y.length : Int) < (Y.length : Int)) := by omega
              have H11 := Lib.hid S11
              clear S11
              rw [List.take_length, HA.out]
              go_wp2_with fail
              go_roundg (X.length - j)
              case measure => have := HI.out; omega
              case rel =>
                have := HI.out
                exact ⟨j + 1, by go_num, by omega, by omega, H11.out.drop 2⟩
        · have hje : j = X.length := by omega
          subst hje
          have hjl' : ¬ ((X.length : Int) < (X.length : Int)) := by omega
          have H9 := Lib.hid S9
          clear S9
          go_wp2_with fail
          refine (fixed_c wr).mono ?_
          rintro e w9 ⟨rfl, b9⟩
          have H10 := Lib.hid (H9.out.below b9)
          clear b9 H9
          go_wp2_with fail
          have r10 := Kd.R_reads' (H10.out.get 1 rfl).1
          refine (sum_c Y (by omega) A8 c8 w9 r10.2.2 r10.2.1).mono ?_
          clear r10
          rintro e w10 ⟨v10, rfl, S10⟩
          obtain ⟨A10, c10, rfl⟩ := Kd.R_slice (S10.get 0 rfl).1
          have H11 := Lib.hid (H10.out.adds S10)
          clear S10 H10
          have hsl : (Y.map seenS).length ≤ 120 := by rw [List.length_map]; exact hyl
          obtain ⟨sy, hsy⟩ : ∃ sy, Y.map seenS = sy := ⟨_, rfl⟩
          have hps := HPS.out
          have hpp := HPP.out
          rw [hsy] at H11 hsl hps hpp ⊢
          obtain ⟨pe, hpe⟩ : ∃ pe, pushL X sy = pe := ⟨_, rfl⟩
          obtain ⟨pf, hpf⟩ : ∃ pf, rpullL X sy = pf := ⟨_, rfl⟩
          have he0 : (pe.length : Int) = 0 := by rw [← hpe, hps]; rfl
          have hf0 : (pf.length : Int) = 0 := by rw [← hpf, hpp]; rfl
          have HS1 := Lib.hid hpe
          have HSY := Lib.hid hsy
          have HS2 := Lib.hid hpf
          clear hsy hps hpp hpe hpf
          go_wp2_with fail
          have hpc := push_c X sy A5 A10 c5 c10 w10 (Kd.R_reads' (H11.out.get 0 rfl).1).2.2 (Kd.R_reads' (H11.out.get 2 rfl).1).2.2 (by omega)
          rw [HS1.out, HLN.out] at hpc
          have hpc' := Lib.hid hpc
          clear hpc
          refine hpc'.out.mono ?_
          clear hpc'
          rintro e w11 ⟨v11, rfl, S11⟩
          obtain ⟨A11, c11, rfl⟩ := Kd.R_slice (S11.get 0 rfl).1
          have H12 := Lib.hid ((H11.out.adds S11).drop 3)
          have H12b := Lib.hid (H12.out.drop 2)
          clear S11 H11
          go_wp2_with fail
          have r12 := Kd.R_reads' (H12b.out.get 1 rfl).1
          refine (sum_c Y (by omega) A8 c8 w11 r12.2.2 r12.2.1).mono ?_
          clear r12
          rintro e w12 ⟨v12, rfl, S12⟩
          obtain ⟨A12, c12, rfl⟩ := Kd.R_slice (S12.get 0 rfl).1
          have H13 := Lib.hid (H12b.out.adds S12)
          clear S12 H12b H12
          rw [HSY.out] at H13 ⊢
          go_wp2_with fail
          have hpc := pull_d X sy A5 A12 c5 c12 w12 (Kd.R_reads' (H13.out.get 0 rfl).1).2.2 (Kd.R_reads' (H13.out.get 2 rfl).1).2.2 (by omega) (by omega)
          rw [HS2.out, HLN.out] at hpc
          have hpc' := Lib.hid hpc
          clear hpc
          refine hpc'.out.mono ?_
          clear hpc'
          rintro e w13 ⟨v13, rfl, S13⟩
          obtain ⟨A13, c13, rfl⟩ := Kd.R_slice (S13.get 0 rfl).1
          have HB13 := Lib.hid (H13.out.base.trans (S13.base.mono H13.out.base.size))
          clear S13 H13
          go_wp2_with fail
          go_ret
          exact ⟨rfl, HB4x.out.trans (HB13.out.mono HB4x.out.size)⟩
end Go.Proofs.Ytepceielndmjgaa
