/- Several texts put together. -/
import Derived.Test.YtjhmkmcongjngaaZB
set_option linter.unusedVariables false
set_option linter.unusedSimpArgs false
/- The sort of []uint8: the heap's sort, the choice of a pivot. -/
set_option linter.unusedVariables false
set_option linter.unusedSimpArgs false
namespace Go.Proofs.Ytjhmkmcongjngaa
open Go.RowKit Go.Tat Go.Proofs.YtjhmkmcongjngaaW.PrintWords
set_option maxRecDepth 100000 in
set_option maxHeartbeats 8000000 in
theorem heap_c (g n c a b : Nat) (hab : a < b) (hb : b ≤ n) (hn : n ≤ 1000000) (l : List Int) (w : World) (h : SS w w g n c l) : Calls Try.prog 42 #[.slice (some ⟨g, 0, none⟩) n c, .int .i64 a, .int .i64 b] w (SPost (.tuple #[]) w g n c l) := by
  have H0 := Lib.hid h
  clear h
  obtain ⟨hi, hhi⟩ : ∃ hi, b = a + hi := ⟨b - a, by omega⟩
  obtain ⟨h1, hh1⟩ : ∃ h1, hi = h1 + 1 := ⟨hi - 1, by omega⟩
  have HH := Lib.hid (show a + hi ≤ n ∧ hi = h1 + 1 ∧ 0 < hi by omega)
  have e0 : (b : Int) - (a : Int) = (hi : Int) := by omega
  have e9 : (hi : Int) - 1 = (h1 : Int) := by omega
  have hb' : (b : Int) ≤ 1000000 := by omega
  have hab' : (a : Int) < (b : Int) := by omega
  clear hhi hh1
  go_enter Try.func42, Try.ntmps42
  go_upto_region 3 with fail
  have hi2 : (hi : Int) ≤ 1000000 := by omega
  have hi3 : (0 : Int) < (hi : Int) := by omega
  clear hab hb hab' hb' e0
  go_wp2_with fail
  go_loopg [9] (hi + 2) (fun m v9 wx => ∃ (q : Int) (l' : List Int), v9 = .int .i64 q ∧ -1 ≤ q ∧ q + 1 < (m : Int) ∧ q ≤ 1000000 ∧ l'.Perm l ∧ SS w wx g n c l')
  case atStart => exact ⟨_, l, rfl, by omega, by omega, by omega, List.Perm.refl _, H0.out⟩
  case round =>
    clear H0
    obtain ⟨q, l1, rfl, hq0, hqm, hq1, hp, S1⟩ := hrel
    have H1 := Lib.hid (And.intro hp S1)
    have HQM := Lib.hid hqm
    clear hp S1 hqm
    by_cases hq : 0 ≤ q
    · obtain ⟨m, rfl⟩ : ∃ m : Nat, q = m := ⟨q.toNat, by omega⟩
      have HS := Lib.hid (sift_c g n c m hi a HH.out.1 hn (by omega) l1 wr (St.start H1.out.2.sat (fun b hb k hk => by rw [List.mem_singleton.1 hb] at hk; cases hk; rfl)))
      clear e9
      go_wp2_with fail
      refine HS.out.mono ?_
      rintro e w2 ⟨rfl, l2, hp2, S2⟩
      have H2 := Lib.hid (And.intro (hp2.trans H1.out.1) (SS.trans H1.out.2 S2))
      clear hp2 S2 HS
      go_wp2_with fail
      go_roundg (m + 1)
      case measure => have := HQM.out; omega
      case rel => exact ⟨(m : Int) - 1, l2, by go_num, by omega, by omega, by omega, H2.out.1, H2.out.2⟩
    · go_upto_region 7 with fail
      clear hq hq0 hq1
      have h19 : h1 ≤ 1000000 := by have := HH.out; omega
      go_wp2_with fail
      clear e9
      go_loopg [10] (hi + 2) (fun m v10 wx => ∃ (q : Int) (l' : List Int), v10 = .int .i64 q ∧ -1 ≤ q ∧ q + 1 < (m : Int) ∧ q < hi ∧ l'.Perm l ∧ SS w wx g n c l')
      case atStart => exact ⟨(h1 : Int), l1, rfl, by omega, by have := HH.out; omega, by have := HH.out; omega, H1.out.1, H1.out.2⟩
      case round =>
        clear H1 HQM
        obtain ⟨q, l2, rfl, hq0, hqm, hq1, hp, S1⟩ := hrel
        have H1 := Lib.hid (And.intro hp S1)
        have HQM := Lib.hid hqm
        clear hp hqm
        by_cases hq : 0 ≤ q
        · obtain ⟨m, rfl⟩ : ∃ m : Nat, q = m := ⟨q.toNat, by omega⟩
          obtain ⟨fm, hfm⟩ : ∃ fm, fm = a + m := ⟨_, rfl⟩
          have hfn : fm < n := by have := HH.out; omega
          have han : a < n := by omega
          have hf9 : fm ≤ 9000000 := by omega
          have hmh : a + m ≤ n := by omega
          go_upto_region 10 with fail
          obtain ⟨x, y, z, cx, fx, cy, fy, cz, fz, l3, hp3, S5⟩ := SS.swap S1 (i := a) (j := fm) han hfn
          have H3 := Lib.hid (And.intro hp3 S5)
          clear hp3 S5
          obtain ⟨f0, f1⟩ := nb hfn
          obtain ⟨a0, a1⟩ := nb han
          have e1 := addw hfm hf9
          clear S1 hfm hfn han hf9
          go_region
          clear cx fx cy fy cz fz e1 f0 f1 a0 a1
          have S4 := H3.out.2.drew
          have HS := Lib.hid (sift_c g n c 0 m a hmh hn (by decide) l3 _ (St.start S4.sat (fun b hb k hk => by rw [List.mem_singleton.1 hb] at hk; cases hk; rfl)))
          have H4 := Lib.hid S4
          clear S4
          go_wp2_with fail
          refine HS.out.mono ?_
          rintro e w2 ⟨rfl, l4, hp4, S5⟩
          have H2 := Lib.hid (And.intro (hp4.trans (H3.out.1.trans H1.out.1)) (SS.trans H4.out S5))
          clear hp4 S5 HS H4 H3
          go_wp2_with fail
          go_roundg (m + 1)
          case measure => have := HQM.out; omega
          case rel => exact ⟨(m : Int) - 1, l4, by go_num, by omega, by omega, by omega, H2.out.1, H2.out.2⟩
        · clear S1
          go_wp2_with fail
          first | go_end0 | ((try simp only [Exit.inBlock, Exit.then]); refine bodyPost_ret (results_none rfl _ _ _) rfl ?_)
          exact ⟨rfl, _, H1.out⟩
abbrev SZ (F : Nat → Prop) (w0 w : World) (g n c z : Nat) (l : List Int) (s : Int) : Prop := St F w0 w [slc (Kd.int .u8) 5 (.slice (some ⟨g, 0, none⟩) n c) l, blk z #[.int .i64 s] 3]
theorem SZ.cell {F : Nat → Prop} {w0 w : World} {g n c z : Nat} {l : List Int} {s : Int} (h : SZ F w0 w g n c z l s) {i : Nat} (hi : i < n) : ∃ x, w.cell? ⟨g, i, none⟩ = some (.int .u8 x) := by
  have h1 : SS w w g n c l := St.start (h.drop 1).sat (fun b hb k hk => by rw [List.mem_singleton.1 hb] at hk; cases hk; rfl)
  obtain ⟨x, _, cx, _⟩ := SS.cell h1 hi
  exact ⟨x, cx⟩
def OPost (F : Nat → Prop) (w0 : World) (g n c z : Nat) (l : List Int) (a b : Nat) (s : Int) (e : Ending) (w' : World) : Prop := ∃ (x y : Nat) (s' : Int), ((x = a ∧ y = b) ∨ (x = b ∧ y = a)) ∧ s ≤ s' ∧ s' ≤ s + 1 ∧ e = .returned (.tuple #[.int .i64 x, .int .i64 y]) ∧ SZ F w0 w' g n c z l s'
set_option maxRecDepth 100000 in
set_option maxHeartbeats 8000000 in
theorem order2_c {F : Nat → Prop} {w0 w : World} (g n c z a b : Nat) (ha : a < n) (hb : b < n) (hn : n ≤ 1000000) (l : List Int) (s : Int) (hs : 0 ≤ s ∧ s ≤ 1000) (h : SZ F w0 w g n c z l s) : Calls Try.prog 58 #[.slice (some ⟨g, 0, none⟩) n c, .int .i64 a, .int .i64 b, .pointer (some ⟨z, 0, none⟩)] w (OPost F w0 g n c z l a b s) := by
  have H0 := Lib.hid h
  obtain ⟨x, cx⟩ := h.cell hb
  obtain ⟨y, cy⟩ := h.cell ha
  obtain ⟨bb, hbb⟩ : ∃ bb, decide (x < y) = bb := ⟨_, rfl⟩
  have HQ := Lib.hid (fun W => hbb ▸ less_c x y W)
  obtain ⟨a0, a1⟩ := nb ha
  obtain ⟨b0, b1⟩ := nb hb
  obtain ⟨s0, s1⟩ := hs
  clear hbb h ha hb hn
  go_enter Try.func58, Try.ntmps58
  go_upto_region 1 with fail
  go_quiet (first | (go_at_call 47; refine Calls.quiet_of (HQ.out _)))
  have S1 := H0.out.drewN nq
  clear cx cy a0 a1 b0 b1
  generalize w.drewN nq = w1 at *
  have H1 := Lib.hid S1
  cases bb with
  | true =>
    have cz : w1.cell? ⟨z, 0, none⟩ = some (.int .i64 s) := S1.cell 1 rfl 0
    have fz := S1.frozen 1 rfl 0
    clear S1
    go_wp2_with fail
    go_ret2
    have hw : wrap64 (s + 1) = s + 1 := by unfold wrap64; omega
    refine ⟨b, a, s + 1, .inr ⟨rfl, rfl⟩, by omega, by omega, rfl, ?_⟩
    exact H1.out.set 1 rfl 0 (.int .i64 (s + 1))
  | false =>
    clear S1
    go_wp2_with fail
    go_ret2
    exact ⟨a, b, s, .inl ⟨rfl, rfl⟩, by omega, by omega, rfl, H1.out⟩
def MPost (F : Nat → Prop) (w0 : World) (g n c z : Nat) (l : List Int) (lo hi : Nat) (s : Int) (e : Ending) (w' : World) : Prop := ∃ (x : Nat) (s' : Int), lo ≤ x ∧ x ≤ hi ∧ s ≤ s' ∧ s' ≤ s + 3 ∧ e = .returned (.int .i64 x) ∧ SZ F w0 w' g n c z l s'
set_option maxRecDepth 100000 in
set_option maxHeartbeats 8000000 in
theorem median_c {F : Nat → Prop} {w0 w : World} (g n c z i j k lo hi : Nat) (hi0 : lo ≤ i ∧ i ≤ hi) (hj0 : lo ≤ j ∧ j ≤ hi) (hk0 : lo ≤ k ∧ k ≤ hi) (hh : hi < n) (hn : n ≤ 1000000) (l : List Int) (s : Int) (hs : 0 ≤ s ∧ s ≤ 900) (h : SZ F w0 w g n c z l s) : Calls Try.prog 56 #[.slice (some ⟨g, 0, none⟩) n c, .int .i64 i, .int .i64 j, .int .i64 k, .pointer (some ⟨z, 0, none⟩)] w (MPost F w0 g n c z l lo hi s) := by
  have HO1 := Lib.hid (order2_c g n c z i j (by omega) (by omega) hn l s (by omega) h)
  clear h
  go_enter Try.func56, Try.ntmps56
  go_wp2_with fail
  refine HO1.out.mono ?_
  rintro e w1 ⟨x1, y1, s1, h1, hs1, hs1', rfl, S1⟩
  have HO2 := Lib.hid (order2_c g n c z y1 k (by omega) (by omega) hn l s1 (by omega) S1)
  clear HO1 S1
  go_wp2_with fail
  refine HO2.out.mono ?_
  rintro e w2 ⟨x2, y2, s2, h2, hs2, hs2', rfl, S2⟩
  have HO3 := Lib.hid (order2_c g n c z x1 x2 (by omega) (by omega) hn l s2 (by omega) S2)
  clear HO2 S2
  go_wp2_with fail
  refine HO3.out.mono ?_
  rintro e w3 ⟨x3, y3, s3, h3, hs3, hs3', rfl, S3⟩
  have H3 := Lib.hid S3
  clear HO3 S3
  have HF := Lib.hid (show lo ≤ y3 ∧ y3 ≤ hi ∧ s ≤ s3 ∧ s3 ≤ s + 3 by omega)
  clear h1 h2 h3
  go_wp2_with fail
  go_ret
  exact ⟨y3, s3, HF.out.1, HF.out.2.1, HF.out.2.2.1, HF.out.2.2.2, rfl, H3.out⟩
set_option maxRecDepth 100000 in
set_option maxHeartbeats 8000000 in
theorem adjacent_c {F : Nat → Prop} {w0 w : World} (g n c z a : Nat) (ha : 1 ≤ a) (hb : a + 1 < n) (hn : n ≤ 1000000) (l : List Int) (s : Int) (hs : 0 ≤ s ∧ s ≤ 900) (h : SZ F w0 w g n c z l s) : Calls Try.prog 55 #[.slice (some ⟨g, 0, none⟩) n c, .int .i64 a, .pointer (some ⟨z, 0, none⟩)] w (MPost F w0 g n c z l (a - 1) (a + 1) s) := by
  obtain ⟨am, ham⟩ : ∃ am, a = 1 + am := ⟨a - 1, by omega⟩
  obtain ⟨ap, hap⟩ : ∃ ap, ap = a + 1 := ⟨_, rfl⟩
  have HM := Lib.hid (median_c g n c z am a ap (a - 1) (a + 1) (by omega) (by omega) (by omega) hb hn l s hs h)
  have e1 : (a : Int) - 1 = (am : Int) := by omega
  have e2 : (a : Int) + 1 = (ap : Int) := by omega
  have ha1 : (1 : Int) ≤ (a : Int) := by omega
  have ha2 : (a : Int) ≤ 1000000 := by omega
  clear h ham hap ha hb
  go_enter Try.func55, Try.ntmps55
  go_wp2_with fail
  refine HM.out.mono ?_
  rintro e w1 ⟨x, s', hx1, hx2, hs1, hs2, rfl, S1⟩
  have H1 := Lib.hid (show MPost F w0 g n c z l (a - 1) (a + 1) s (.returned (.int .i64 x)) w1 from ⟨x, s', hx1, hx2, hs1, hs2, rfl, S1⟩)
  clear hx1 hx2 hs1 hs2 S1 HM
  go_wp2_with fail
  go_ret
  exact H1.out
end Go.Proofs.Ytjhmkmcongjngaa
/- The sort of []uint8: the choice of a pivot. -/
set_option linter.unusedVariables false
set_option linter.unusedSimpArgs false
namespace Go.Proofs.Ytjhmkmcongjngaa
open Go.RowKit Go.Tat Go.Proofs.YtjhmkmcongjngaaW.PrintWords
theorem zeroI : (Try.prog.info? 3).map (·.zero) = some (some (.int .i64 0)) := by kernel_rfl
def PPost (w0 : World) (g n c : Nat) (l : List Int) (a b : Nat) (e : Ending) (w' : World) : Prop := ∃ (p : Nat) (h : Int), a ≤ p ∧ p < b ∧ (h = 0 ∨ h = 1 ∨ h = 2) ∧ e = .returned (.tuple #[.int .i64 p, .int .i64 h]) ∧ SS w0 w' g n c l
set_option maxRecDepth 100000 in
set_option maxHeartbeats 8000000 in
theorem pivot_c (g n c a b : Nat) (hab : a + 12 < b) (hb : b ≤ n) (hn : n ≤ 1000000) (l : List Int) (w : World) (h : SS w w g n c l) : Calls Try.prog 44 #[.slice (some ⟨g, 0, none⟩) n c, .int .i64 a, .int .i64 b] w (PPost w g n c l a b) := by
  have H0 := Lib.hid h
  obtain ⟨L, hL⟩ : ∃ L, b = a + L := ⟨b - a, by omega⟩
  obtain ⟨q, hq⟩ : ∃ q, q = L / 4 := ⟨_, rfl⟩
  obtain ⟨i, hi⟩ : ∃ i, i = a + q := ⟨_, rfl⟩
  obtain ⟨j, hj⟩ : ∃ j, j = a + q * 2 := ⟨_, rfl⟩
  obtain ⟨k, hk⟩ : ∃ k, k = a + q * 3 := ⟨_, rfl⟩
  have HQ := Lib.hid (show b = a + L ∧ q = L / 4 ∧ i = a + q ∧ j = a + q * 2 ∧ k = a + q * 3 ∧ b ≤ n ∧ 12 < L by omega)
  have e0 : (b : Int) - (a : Int) = (L : Int) := by omega
  have e1 : (L : Int) / 4 = (q : Int) := by omega
  have e1' : Int.tdiv (L : Int) 4 = (q : Int) := by rw [Int.tdiv_eq_ediv_of_nonneg (by omega)]; exact e1
  have e2 : (a : Int) + (q : Int) = (i : Int) := by omega
  have e3 : (a : Int) + (q : Int) * 2 = (j : Int) := by omega
  have e4 : (a : Int) + (q : Int) * 3 = (k : Int) := by omega
  have b1 : (L : Int) ≤ 1000000 := by omega
  have b2 : (8 : Int) ≤ (L : Int) := by omega
  have b3 : (q : Int) ≤ 1000000 := by omega
  have b4 : (a : Int) ≤ 1000000 := by omega
  have b5 : (b : Int) ≤ 1000000 := by omega
  clear h hL hq hi hj hk hab hb
  go_enter Try.func44, Try.ntmps44
  go_upto_region 3 with (refine St.wpAlloc rfl 3 rfl _ _ zeroI rfl H0.out ?_; intro z w1 H1)
  have H2 := Lib.hid (show SZ (fun k => k = g) w w1 g n c z l 0 from H1.out)
  clear H1 H0
  go_upto_region 6 with fail
  clear e0 e1 e1' e2 e3 e4 b3 b4 b5
  by_cases h50 : 50 ≤ L
  · have h50' : (50 : Int) ≤ (L : Int) := by omega
    have HA := Lib.hid (adjacent_c g n c z i (by have := HQ.out; omega) (by have := HQ.out; omega) hn l 0 (by omega) H2.out)
    clear H2 h50
    go_wp2_with fail
    refine HA.out.mono ?_
    rintro e w2 ⟨x1, s1, hx1, hy1, hs1, ht1, rfl, S1⟩
    have HA2 := Lib.hid (adjacent_c g n c z j (by have := HQ.out; omega) (by have := HQ.out; omega) hn l s1 (by omega) S1)
    clear HA S1
    go_wp2_with fail
    refine HA2.out.mono ?_
    rintro e w3 ⟨x2, s2, hx2, hy2, hs2, ht2, rfl, S2⟩
    have HA3 := Lib.hid (adjacent_c g n c z k (by have := HQ.out; omega) (by have := HQ.out; omega) hn l s2 (by omega) S2)
    clear HA2 S2
    go_wp2_with fail
    refine HA3.out.mono ?_
    rintro e w4 ⟨x3, s3, hx3, hy3, hs3, ht3, rfl, S3⟩
    have HF := Lib.hid (show 0 ≤ s3 ∧ s3 ≤ 9 by omega)
    have HM := Lib.hid (median_c g n c z x1 x2 x3 a (b - 1) (by have := HQ.out; omega) (by have := HQ.out; omega) (by have := HQ.out; omega) (by have := HQ.out; omega) hn l s3 (by omega) S3)
    clear HA3 S3 hx1 hy1 hs1 ht1 hx2 hy2 hs2 ht2 hx3 hy3 hs3 ht3
    go_wp2_with fail
    refine HM.out.mono ?_
    rintro e w5 ⟨x4, s4, hx4, hy4, hs4, ht4, rfl, S4⟩
    have HX := Lib.hid (show a ≤ x4 ∧ x4 < b by have := HQ.out; omega)
    have H4 := Lib.hid (show SS w w5 g n c l from St.drop S4 1)
    have cz : w5.cell? ⟨z, 0, none⟩ = some (.int .i64 s4) := St.cell S4 1 rfl 0
    clear S4 HM hx4 hy4 hs4 ht4
    by_cases hs0 : s4 = 0
    · subst hs0
      go_wp2_with fail
      go_ret2
      exact ⟨x4, 1, HX.out.1, HX.out.2, by decide, rfl, H4.out⟩
    · by_cases hs12 : s4 = 12
      · subst hs12
        go_wp2_with fail
        go_ret2
        exact ⟨x4, 2, HX.out.1, HX.out.2, by decide, rfl, H4.out⟩
      · have q0 : (s4 == 0) = false := by simpa using hs0
        have q12 : (s4 == 12) = false := by simpa using hs12
        clear hs0 hs12
        go_wp2_with fail
        go_ret2
        exact ⟨x4, 0, HX.out.1, HX.out.2, by decide, rfl, H4.out⟩
  · have h50' : ¬ (50 : Int) ≤ (L : Int) := by omega
    have HM := Lib.hid (median_c g n c z i j k a (b - 1) (by have := HQ.out; omega) (by have := HQ.out; omega) (by have := HQ.out; omega) (by have := HQ.out; omega) hn l 0 (by omega) H2.out)
    have HF := Lib.hid (show (0 : Int) ≤ 0 ∧ (0 : Int) ≤ 9 by omega)
    clear H2 h50
    go_wp2_with fail
    refine HM.out.mono ?_
    rintro e w5 ⟨x4, s4, hx4, hy4, hs4, ht4, rfl, S4⟩
    have HX := Lib.hid (show a ≤ x4 ∧ x4 < b by have := HQ.out; omega)
    have H4 := Lib.hid (show SS w w5 g n c l from St.drop S4 1)
    have cz : w5.cell? ⟨z, 0, none⟩ = some (.int .i64 s4) := St.cell S4 1 rfl 0
    clear S4 HM hx4 hy4 hs4 ht4
    by_cases hs0 : s4 = 0
    · subst hs0
      go_wp2_with fail
      go_ret2
      exact ⟨x4, 1, HX.out.1, HX.out.2, by decide, rfl, H4.out⟩
    · by_cases hs12 : s4 = 12
      · subst hs12
        go_wp2_with fail
        go_ret2
        exact ⟨x4, 2, HX.out.1, HX.out.2, by decide, rfl, H4.out⟩
      · have q0 : (s4 == 0) = false := by simpa using hs0
        have q12 : (s4 == 12) = false := by simpa using hs12
        clear hs0 hs12
        go_wp2_with fail
        go_ret2
        exact ⟨x4, 0, HX.out.1, HX.out.2, by decide, rfl, H4.out⟩
end Go.Proofs.Ytjhmkmcongjngaa
