/- The sort of []uint8: patterns broken. -/
import Derived.Test.YtjhmkmcongjngaaZEF
set_option linter.unusedVariables false
set_option linter.unusedSimpArgs false
namespace Go.Proofs.Ytjhmkmcongjngaa
open Go.RowKit Go.Tat Go.Proofs.YtjhmkmcongjngaaW.PrintWords
theorem zero115 : (Try.prog.info? 115).map (·.zero) = some (some (.int .u64 0)) := by kernel_rfl
theorem and_r (s : Int) (h0 : 0 ≤ s) (h1 : s < 18446744073709551616) (M : Nat) (hM : M ≤ 3000000) : ∃ o : Nat, Go.bits .and .u64 s (M : Int) = (o : Int) ∧ o ≤ M := by
  refine ⟨_, u64_and s M h0 h1 (by omega) (by omega), ?_⟩
  have := Nat.and_le_right (n := s.toNat) (m := (M : Int).toNat)
  omega
set_option maxRecDepth 100000 in
set_option maxHeartbeats 8000000 in
theorem break_c (g n c a b : Nat) (hab : a + 12 < b) (hb : b ≤ n) (hn : n ≤ 1000000) (l : List Int) (w : World) (h : SS w w g n c l) : Calls Try.prog 43 #[.slice (some ⟨g, 0, none⟩) n c, .int .i64 a, .int .i64 b] w (SPost (.tuple #[]) w g n c l) := by
  have H0 := Lib.hid h
  obtain ⟨L, hL⟩ : ∃ L, b = a + L := ⟨b - a, by omega⟩
  obtain ⟨q, hq⟩ : ∃ q, q = L / 4 := ⟨_, rfl⟩
  have HQ := Lib.hid (show b = a + L ∧ q = L / 4 ∧ b ≤ n ∧ 12 < L ∧ L ≤ 1000000 by omega)
  have e0 : (b : Int) - (a : Int) = (L : Int) := by omega
  have e1 : (L : Int) / 4 = (q : Int) := by omega
  have b1 : (L : Int) ≤ 1000000 := by omega
  have b2 : (8 : Int) ≤ (L : Int) := by omega
  have b3 : (q : Int) ≤ 1000000 := by omega
  have b4 : (a : Int) ≤ 1000000 := by omega
  have b5 : (b : Int) ≤ 1000000 := by omega
  clear h hL hq hab hb
  go_enter Try.func43, Try.ntmps43
  go_upto_region 3 with (first | (refine St.wpAlloc rfl 115 rfl _ _ zero115 rfl H0.out ?_; intro z w1 H1; have cz := H1.out.cell 1 rfl 0; have fz := H1.out.frozen 1 rfl 0))
  have S2 := H1.out.set 1 rfl 0 (.int .u64 (L : Int))
  clear cz fz
  generalize World.setCell w1 _ _ = w2 at *
  have H2 := Lib.hid (show St (fun k => k = g) w w2 [slc (Kd.int .u8) 5 (.slice (some ⟨g, 0, none⟩) n c) l, blk z #[.int .u64 (L : Int)] 115] from S2)
  clear S2 H1 H0
  go_wp2_with fail
  refine (pow_c L (by have := HQ.out; omega) (HQ.out.2.2.2.2) _).mono ?_
  rintro e w3 ⟨⟨M, rfl, hM1, hM2⟩, rfl⟩
  obtain ⟨M1, hMM⟩ : ∃ M1, M = M1 + 1 := ⟨M - 1, by omega⟩
  have HM := Lib.hid (show M1 < 2 * L ∧ M1 ≤ 3000000 by have := HQ.out; omega)
  have em : (M : Int) - 1 = (M1 : Int) := by omega
  have bm : (M : Int) ≤ 3000000 := by have := HQ.out; omega
  have bm1 : (1 : Int) ≤ (M : Int) := by omega
  have HEM := Lib.hid (And.intro em (And.intro bm bm1))
  clear hM1 hM2 hMM
  obtain ⟨ix, hix⟩ : ∃ ix, a + q * 2 = ix + 1 := ⟨a + q * 2 - 1, by have := HQ.out; omega⟩
  obtain ⟨tp, htp⟩ : ∃ tp, tp = a + q * 2 + 1 := ⟨_, rfl⟩
  have e2 : (a : Int) + (q : Int) * 2 - 1 = (ix : Int) := by omega
  have e3 : (a : Int) + (q : Int) * 2 + 1 = (tp : Int) := by omega
  have HI := Lib.hid (show tp = ix + 2 ∧ tp < n by have := HQ.out; omega)
  clear hix htp em bm bm1
  go_wp2_with fail
  clear e2
  go_loopg [9] 4 (fun m v9 wx => ∃ (i : Nat) (l' : List Int) (s : Int), v9 = .int .i64 i ∧ tp + 1 - i < m ∧ i ≤ tp + 1 ∧ l'.Perm l ∧ St (fun k => k = g) w wx [slc (Kd.int .u8) 5 (.slice (some ⟨g, 0, none⟩) n c) l', blk z #[.int .u64 s] 115])
  case atStart => exact ⟨ix, l, _, rfl, by have := HI.out; omega, by have := HI.out; omega, List.Perm.refl _, H2.out⟩
  case round =>
    clear H2
    obtain ⟨i, l1, s, rfl, him, hi1, hp, S1⟩ := hrel
    have H1 := Lib.hid (And.intro hp S1)
    have HIM := Lib.hid him
    clear hp S1 him
    by_cases hit : i ≤ tp
    · have hit' : (i : Int) ≤ (tp : Int) := by omega
      have hin : i < n := by have := HI.out; omega
      have hi9 : i + 1 ≤ 9000000 := by omega
      have HNX := Lib.hid (next_c _ z s H1.out.2)
      go_upto_region 7 with fail
      clear hit' e3
      go_wp2_with fail
      refine HNX.out.mono ?_
      rintro e w4 ⟨s', hs0, hs1, rfl, S4⟩
      obtain ⟨o, ho, ho2⟩ := and_r s' hs0 hs1 M1 HM.out.2
      have HO := Lib.hid ho
      clear ho
      have hol : o < 2 * L := by have := HM.out; omega
      have ob : (o : Int) ≤ 3000000 := by have := HM.out; omega
      have em : (M : Int) - 1 = (M1 : Int) := HEM.out.1
      have bm : (M : Int) ≤ 3000000 := HEM.out.2.1
      have bm1 : (1 : Int) ≤ (M : Int) := HEM.out.2.2
      have H4 := Lib.hid S4
      have ho := HO.out
      clear S4 HNX hs0 hs1 ho2
      go_upto_region 8 with fail
      clear em bm bm1 ho
      by_cases hoL : L ≤ o
      · have hoL' : (L : Int) ≤ (o : Int) := by omega
        obtain ⟨o1, ho1⟩ : ∃ o1, o = L + o1 := ⟨o - L, by omega⟩
        have eo : (o : Int) - (L : Int) = (o1 : Int) := by omega
        have ho1L : o1 < L := by omega
        clear ho1 hol
        go_upto_region 10 with fail
        clear eo hoL' hoL ob
        obtain ⟨ao, hao⟩ : ∃ ao, ao = a + o1 := ⟨_, rfl⟩
        have haon : ao < n := by have := HQ.out; omega
        have hao9 : ao ≤ 9000000 := by omega
        obtain ⟨x, y, z', cx, fx, cy, fy, cz, fz, l3, hp3, S5⟩ := St.swap H4.out (i := i) (j := ao) hin haon
        have H5 := Lib.hid (And.intro hp3 S5)
        obtain ⟨i0, i1⟩ := nb hin
        obtain ⟨ao0, ao1⟩ := nb haon
        have HJ := Lib.hid (show tp + 1 - (i + 1) < tp + 1 - i ∧ i + 1 ≤ tp + 1 ∧ ((i : Int) + 1 = ((i + 1 : Nat) : Int)) by omega)
        have i2 : (i : Int) ≤ 1000000 := by omega
        have ea := addw hao hao9
        clear hp3 S5 hao haon hao9 hi1 hit hin hi9 H4
        as_aux_lemma =>
          go_region
          go_wp2
          go_roundg (tp + 1 - i)
          case measure => exact HIM.out
          case rel =>
            exact ⟨i + 1, l3, s', congrArg (Value.int .i64) HJ.out.2.2, HJ.out.1, HJ.out.2.1, H5.out.1.trans H1.out.1, H5.out.2.drew⟩
      · have hoL' : ¬ (L : Int) ≤ (o : Int) := by omega
        obtain ⟨o1, ho1⟩ : ∃ o1, o1 = o := ⟨_, rfl⟩
        have ho1L : o1 < L := by omega
        clear hol
        go_upto_region 10 with fail
        rw [← ho1]
        clear hoL' hoL ob ho1
        obtain ⟨ao, hao⟩ : ∃ ao, ao = a + o1 := ⟨_, rfl⟩
        have haon : ao < n := by have := HQ.out; omega
        have hao9 : ao ≤ 9000000 := by omega
        obtain ⟨x, y, z', cx, fx, cy, fy, cz, fz, l3, hp3, S5⟩ := St.swap H4.out (i := i) (j := ao) hin haon
        have H5 := Lib.hid (And.intro hp3 S5)
        obtain ⟨i0, i1⟩ := nb hin
        obtain ⟨ao0, ao1⟩ := nb haon
        have HJ := Lib.hid (show tp + 1 - (i + 1) < tp + 1 - i ∧ i + 1 ≤ tp + 1 ∧ ((i : Int) + 1 = ((i + 1 : Nat) : Int)) by omega)
        have i2 : (i : Int) ≤ 1000000 := by omega
        have ea := addw hao hao9
        clear hp3 S5 hao haon hao9 hi1 hit hin hi9 H4
        as_aux_lemma =>
          go_region
          go_wp2
          go_roundg (tp + 1 - i)
          case measure => exact HIM.out
          case rel =>
            exact ⟨i + 1, l3, s', congrArg (Value.int .i64) HJ.out.2.2, HJ.out.1, HJ.out.2.1, H5.out.1.trans H1.out.1, H5.out.2.drew⟩
    · have hit' : ¬ (i : Int) ≤ (tp : Int) := by omega
      go_wp2_with fail
      first | go_end0 | ((try simp only [Exit.inBlock, Exit.then]); refine bodyPost_ret (results_none rfl _ _ _) rfl ?_)
      exact ⟨rfl, _, H1.out.1, H1.out.2.drop 1⟩
end Go.Proofs.Ytjhmkmcongjngaa
