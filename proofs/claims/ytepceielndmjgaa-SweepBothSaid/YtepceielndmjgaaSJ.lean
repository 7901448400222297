import Derived.Test.YtepceielndmjgaaSI
namespace Go.Proofs.Ytepceielndmjgaa
open Go.RowKit Go.Tat Go.Proofs.YtepceielndmjgaaW.PrintWords PSweepTells
theorem push_own (l : List S41) : pushL l (l.map seenS) = [] := by
  rw [pushL_cov, List.filter_eq_nil_iff]
  intro r hr
  have : covB (l.map seenS) (seenS r) = true := (covB_iff _ _).2 ⟨seenS r, List.mem_map.2 ⟨r, hr, rfl⟩, rfl, ltS_irrefl _⟩
  simp [this]
theorem pull_own (l : List S41) : rpullL l (l.map seenS) = [] := by
  rw [List.eq_nil_iff_forall_not_mem]
  intro k hk
  obtain ⟨t, ht, hk, h⟩ := (rpullL_mem _ _ _).1 hk
  obtain ⟨r, hr, rfl⟩ := List.mem_map.1 ht
  exact ltS_irrefl _ (h r hr hk)
set_option maxRecDepth 100000 in
set_option maxHeartbeats 8000000 in
theorem nothing_c (mine : List S41) (theirs : List S43) (Am At : Option Addr) (cm ct : Nat) (W : World) (hM : k41.C W Am mine.length mine) (hT : k43.C W At theirs.length theirs) (hcm : mine.length ≤ cm) (hct : theirs.length ≤ ct) :
    Calls Try.prog 6 #[.slice Am mine.length cm, .slice At theirs.length ct] W fun e w' => e = .returned (.bool true) ∧ Below W.heap.size W w' := by
  have HC := Lib.hid (And.intro hM (And.intro hT (And.intro hcm hct)))
  obtain ⟨b, hb, HU⟩ := unlike_c mine Am cm W hM hcm
  have HU := Lib.hid HU
  have Hb := Lib.hid hb
  clear hM hT hcm hct hb
  go_enter Try.func6, Try.ntmps6
  go_wp2_with fail
  refine HU.out.mono ?_
  rintro e w1 ⟨rfl, d1⟩
  have HB1 := Lib.hid d1.below
  clear d1 HU
  cases b with
  | false =>
    clear Hb
    go_wp2_with fail
    refine (fixed_c w1).mono ?_
    rintro e w2 ⟨rfl, b2⟩
    have HB2 := Lib.hid (HB1.out.trans (b2.mono HB1.out.size))
    clear b2 HB1
    go_wp2_with fail
    go_ret
    exact ⟨rfl, HB2.out⟩
  | true =>
    have hU := Hb.out rfl
    have hml := hU.len
    have HU := Lib.hid hU
    obtain ⟨g, hg, HG⟩ := great_c theirs At ct w1 (Kd.C_below HC.out.2.1 HB1.out) HC.out.2.2.2
    have HG := Lib.hid HG
    have Hg := Lib.hid hg
    clear hg Hb hU
    go_wp2_with fail
    refine HG.out.mono ?_
    rintro e w2 ⟨rfl, b2⟩
    have HB2 := Lib.hid (HB1.out.trans (b2.mono HB1.out.size))
    clear b2 HB1 HG
    cases g with
    | true =>
      clear Hg
      go_wp2_with fail
      refine (fixed_c w2).mono ?_
      rintro e w3 ⟨rfl, b3⟩
      have HB3 := Lib.hid (HB2.out.trans (b3.mono HB2.out.size))
      clear b3 HB2
      go_wp2_with fail
      go_ret
      exact ⟨rfl, HB3.out⟩
    | false =>
      have htl := Hg.out rfl
      clear Hg
      obtain ⟨z, hz⟩ : ∃ z, w2.heap.size = z := ⟨_, rfl⟩
      have HS1 := Lib.hid ((St.nil (fun _ => False) w2).empty fl41 41 z hz)
      go_wp2_with (at_builtin; go_loud (refine St.wpN fl41 rfl _ _ 22 41 (.agg #[(.string ⟨#[]⟩), (.int .u64 0), (.int .u32 0), (.int .u8 0), (.int .u8 0), (.int .u32 0), (.int .u64 0), (.string ⟨#[]⟩)]) 64 rfl Try.underlying22 info41 rfl (by decide) (by decide) HS1.out 0 rfl mine Am _ rfl rfl (Kd.C_below HC.out.1 (HB2.out.trans (HS1.out.base.mono HB2.out.size))) (by simp only [List.length_nil]; omega) ?_))
      intro T3 A3 c3 w3 h3
      have HS3 := Lib.hid h3.out.2
      obtain rfl : T3 = mine := h3.out.1
      clear h3 HS1 hz
      go_wp2_with fail
      have r0 := Kd.R_reads' (HS3.out.get 0 rfl).1
      refine (sum_c T3 (by omega) A3 c3 w3 r0.2.2 r0.2.1).mono ?_
      clear r0
      rintro e w4 ⟨v4, rfl, S4⟩
      obtain ⟨A4, c4, rfl⟩ := Kd.R_slice (S4.get 0 rfl).1
      have hsl : (T3.map seenS).length ≤ 60 := by rw [List.length_map]; exact hml
      have HOW := Lib.hid (And.intro (push_own T3) (pull_own T3))
      obtain ⟨s, hs⟩ : ∃ s, T3.map seenS = s := ⟨_, rfl⟩
      rw [hs] at S4 hsl HOW ⊢
      obtain ⟨y, hy⟩ : ∃ y, w4.heap.size = y := ⟨_, rfl⟩
      have HS5 := Lib.hid ((HS3.out.adds S4).empty fl43 43 y hy)
      clear S4 HS3 hs
      go_wp2_with (at_builtin; go_loud (refine St.wpN fl43 rfl _ _ 23 43 (.agg #[(.string ⟨#[]⟩), (.int .u64 0), (.int .u32 0), (.int .u8 0), (.int .u8 0)]) 40 rfl Try.underlying23 info43 rfl (by decide) (by decide) HS5.out 2 rfl theirs At _ rfl rfl (Kd.C_below HC.out.2.1 (HB2.out.trans (HS5.out.base.mono HB2.out.size))) (by simp only [List.length_nil]; omega) ?_))
      intro T6 A6 c6 w6 h6
      have HS6 := Lib.hid (show St (fun _ => False) w2 w6 [slc k41 41 (.slice A3 T3.length c3) T3, slc k43 43 (.slice A4 s.length c4) s, slc k43 43 (.slice A6 T6.length c6) T6] from h6.out.2)
      obtain rfl : T6 = theirs := h6.out.1
      clear h6 HS5 hy
      go_wp2_with fail
      refine (push_c T3 T6 A3 A6 c3 c6 w6 (Kd.R_reads' (HS6.out.get 0 rfl).1).2.2 (Kd.R_reads' (HS6.out.get 2 rfl).1).2.2 (by omega)).mono ?_
      rintro e w7 ⟨v7, rfl, S7⟩
      have HS7 := Lib.hid (HS6.out.below S7.base)
      clear S7 HS6
      go_wp2_with fail
      refine (pull_d T3 T6 A3 A6 c3 c6 w7 (Kd.R_reads' (HS7.out.get 0 rfl).1).2.2 (Kd.R_reads' (HS7.out.get 2 rfl).1).2.2 (by omega) (by omega)).mono ?_
      rintro e w8 ⟨v8, rfl, S8⟩
      have HS8 := Lib.hid (HS7.out.below S8.base)
      clear S8 HS7
      go_wp2_with fail
      refine (fixed_c w8).mono ?_
      rintro e w9 ⟨rfl, b9⟩
      have HS9 := Lib.hid (HS8.out.below b9)
      clear b9 HS8
      go_wp2_with fail
      refine (push_c T3 s A3 A4 c3 c4 w9 (Kd.R_reads' (HS9.out.get 0 rfl).1).2.2 (Kd.R_reads' (HS9.out.get 1 rfl).1).2.2 (by omega)).mono ?_
      rw [HOW.out.1]
      rintro e w10 ⟨v10, rfl, S10⟩
      obtain ⟨A10, c10, rfl⟩ := Kd.R_slice (S10.get 0 rfl).1
      have HS10 := Lib.hid (HS9.out.below S10.base)
      clear S10 HS9
      go_wp2_with fail
      refine (pull_d T3 s A3 A4 c3 c4 w10 (Kd.R_reads' (HS10.out.get 0 rfl).1).2.2 (Kd.R_reads' (HS10.out.get 1 rfl).1).2.2 (by omega) (by omega)).mono ?_
      rw [HOW.out.2]
      rintro e w11 ⟨v11, rfl, S11⟩
      obtain ⟨A11, c11, rfl⟩ := Kd.R_slice (S11.get 0 rfl).1
      have HS11 := Lib.hid (HS10.out.below S11.base)
      clear S11 HS10
      go_wp2_with fail
      have HB11 := HB2.out.trans (HS11.out.base.mono HB2.out.size)
      have r0 := Kd.R_reads' (HS11.out.get 0 rfl).1
      refine (same06_c T3 (by omega) A3 Am c3 cm w11 r0.2.2 r0.2.1 (Kd.C_below HC.out.1 HB11) HC.out.2.2.1).mono ?_
      clear r0 HB11
      rintro e w12 ⟨rfl, d12⟩
      have HS12 := Lib.hid (HS11.out.below d12.below)
      clear d12 HS11
      go_wp2_with fail
      have HB12 := HB2.out.trans (HS12.out.base.mono HB2.out.size)
      have r0 := Kd.R_reads' (HS12.out.get 2 rfl).1
      refine (sameS_c T6 (by omega) A6 At c6 ct w12 r0.2.2 r0.2.1 (Kd.C_below HC.out.2.1 HB12) HC.out.2.2.2).mono ?_
      clear r0 HB12
      rintro e w13 ⟨rfl, d13⟩
      have HS13 := Lib.hid (HS12.out.below d13.below).base
      clear d13 HS12
      go_wp2_with fail
      go_ret
      exact ⟨rfl, HB2.out.trans (HS13.out.mono HB2.out.size)⟩
/-! ### Pulled by one, pushed by the other one -/
theorem meets (a b : List S41) (hb : (keys41 b).Nodup) : (rpullL a (b.map seenS)).length = (pushL b (a.map seenS)).length ∧ ∀ r ∈ pushL b (a.map seenS), r.f0 ∈ rpullL a (b.map seenS) := by
  have hmem : ∀ k, k ∈ rpullL a (b.map seenS) ↔ k ∈ keys41 (pushL b (a.map seenS)) := fun k => by
    rw [rpullL_mem, pushL_cov]
    constructor
    · rintro ⟨t, ht, hk, h⟩
      obtain ⟨r, hr, rfl⟩ := List.mem_map.1 ht
      refine List.mem_map.2 ⟨r, List.mem_filter.2 ⟨hr, ?_⟩, hk⟩
      rw [(cov_pulled a (seenS r)).2 (fun q hq hqk => h q hq (hqk.trans hk))]
      rfl
    · intro h
      obtain ⟨r, hr, rfl⟩ := List.mem_map.1 h
      obtain ⟨h1, h2⟩ := List.mem_filter.1 hr
      have h3 : covB (a.map seenS) (seenS r) = false := by simpa using h2
      exact ⟨seenS r, List.mem_map.2 ⟨r, h1, rfl⟩, rfl, fun q hq hqk => (cov_pulled a (seenS r)).1 h3 q hq hqk⟩
  have n1 : (keys41 (pushL b (a.map seenS))).Nodup := (List.filter_sublist.map _).nodup hb
  have n2 : (rpullL a (b.map seenS)).Nodup := (rpullL_go _ _ [] List.Pairwise.nil).1.imp fun {a b} h e => by subst e; exact List.lt_irrefl _ h
  have hp := (List.perm_ext_iff_of_nodup n2 n1).2 hmem
  refine ⟨by have := hp.length_eq; rwa [List.length_map] at this, fun r hr => (hmem _).2 (List.mem_map.2 ⟨r, hr, rfl⟩)⟩
end Go.Proofs.Ytepceielndmjgaa
