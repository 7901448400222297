/- The sort of []uint8: the heap. -/
import Derived.Test.YtjhmkmcongjngaaZA
set_option linter.unusedVariables false
set_option linter.unusedSimpArgs false
namespace Go.Proofs.Ytjhmkmcongjngaa
open Go.RowKit Go.Tat Go.Proofs.YtjhmkmcongjngaaW.PrintWords
theorem addw {a b c : Nat} (h : c = a + b) (hb : c ≤ 9000000) : IntKind.i64.wrap ((a : Int) + (b : Int)) = (c : Int) := by rw [iw]; unfold wrap64; omega
theorem addw1 {a c : Nat} (h : c = a + 1) (hb : c ≤ 9000000) : IntKind.i64.wrap ((a : Int) + 1) = (c : Int) := by rw [iw]; unfold wrap64; omega
theorem mulw {a c : Nat} (h : c = 2 * a) (hb : c ≤ 9000000) : IntKind.i64.wrap (2 * (a : Int)) = (c : Int) := by rw [iw]; unfold wrap64; omega
theorem subw {a b c : Nat} (h : a = b + c) (hb : a ≤ 9000000) : IntKind.i64.wrap ((a : Int) - (b : Int)) = (c : Int) := by rw [iw]; unfold wrap64; omega
theorem addv {a b c : Nat} (h : c = a + b) (hb : c ≤ 9000000) : wrap64 ((a : Int) + (b : Int)) = (c : Int) := by unfold wrap64; omega
theorem addv1 {a c : Nat} (h : c = a + 1) (hb : c ≤ 9000000) : wrap64 ((a : Int) + 1) = (c : Int) := by unfold wrap64; omega
theorem mulv {a c : Nat} (h : c = 2 * a) (hb : c ≤ 9000000) : wrap64 (2 * (a : Int)) = (c : Int) := by unfold wrap64; omega
theorem subv {a b c : Nat} (h : a = b + c) (hb : a ≤ 9000000) : wrap64 ((a : Int) - (b : Int)) = (c : Int) := by unfold wrap64; omega
theorem subv1 {a c : Nat} (h : a = 1 + c) (hb : a ≤ 9000000) : wrap64 ((a : Int) - 1) = (c : Int) := by unfold wrap64; omega
theorem subw1 {a c : Nat} (h : a = 1 + c) (hb : a ≤ 9000000) : IntKind.i64.wrap ((a : Int) - 1) = (c : Int) := by rw [iw]; unfold wrap64; omega
theorem nb {a n : Nat} (h : a < n) : (0 : Int) ≤ (a : Int) ∧ (a : Int) < (n : Int) := by omega
theorem ilt {a n : Nat} (h : a < n) : (a : Int) < (n : Int) := by omega
theorem ige {a n : Nat} (h : ¬ a < n) : (n : Int) ≤ (a : Int) ∧ ¬ (a : Int) < (n : Int) := by omega
theorem inle {a n : Nat} (h : a < n) : ¬ (n : Int) ≤ (a : Int) := by omega
set_option maxRecDepth 100000 in
set_option maxHeartbeats 8000000 in
theorem sift_c (g n c lo hi f : Nat) (hf : f + hi ≤ n) (hn : n ≤ 1000000) (hlo : lo ≤ 1000000) (l : List Int) (w : World) (h : SS w w g n c l) : Calls Try.prog 52 #[.slice (some ⟨g, 0, none⟩) n c, .int .i64 lo, .int .i64 hi, .int .i64 f] w (SPost (.tuple #[]) w g n c l) := by
  have H0 := Lib.hid h
  clear h
  go_enter Try.func52, Try.ntmps52
  go_wp2_with fail
  go_loopg [8] (hi - lo + 1) (fun m v8 wx => ∃ (r : Nat) (l' : List Int), v8 = .int .i64 r ∧ hi - r < m ∧ r ≤ 1000000 ∧ l'.Perm l ∧ SS w wx g n c l')
  case atStart => exact ⟨lo, l, rfl, by omega, by omega, List.Perm.refl _, H0.out⟩
  case round =>
    clear H0
    obtain ⟨r, l1, rfl, him, hr, hp, S1⟩ := hrel
    have H1 := Lib.hid (And.intro him (And.intro hp S1))
    clear hp S1 him
    go_upto_region 2 with fail
    obtain ⟨d, hd⟩ : ∃ d, d = 2 * r := ⟨_, rfl⟩
    obtain ⟨ch, hc⟩ : ∃ ch, ch = d + 1 := ⟨_, rfl⟩
    obtain ⟨c1, hc1⟩ : ∃ c1, c1 = ch + 1 := ⟨_, rfl⟩
    obtain ⟨fc, hfc⟩ : ∃ fc, fc = f + ch := ⟨_, rfl⟩
    obtain ⟨fc1, hfc1⟩ : ∃ fc1, fc1 = fc + 1 := ⟨_, rfl⟩
    obtain ⟨b1, b2, b3, b4, b5⟩ : d ≤ 9000000 ∧ ch ≤ 9000000 ∧ c1 ≤ 9000000 ∧ fc ≤ 9000000 ∧ fc1 ≤ 9000000 := by omega
    have ech : 2 * (r : Int) + 1 = (ch : Int) := by omega
    rw [ech]
    clear ech
    have HD := Lib.hid (show ch = 2 * r + 1 ∧ c1 = ch + 1 ∧ (ch < hi → fc < n) ∧ (c1 < hi → fc1 < n) by omega)
    by_cases hch : ch < hi
    · have hch' := inle hch
      have hfn := HD.out.2.2.1 hch
      obtain ⟨fc0, fcn⟩ := nb hfn
      by_cases h1 : c1 < hi
      · have hf1 := HD.out.2.2.2 h1
        have h1' := ilt h1
        obtain ⟨fc10, fc1n⟩ := nb hf1
        obtain ⟨x, _, cx, _⟩ := SS.cell H1.out.2.2 (i := fc) (hfn)
        obtain ⟨y, _, cy, _⟩ := SS.cell H1.out.2.2 (i := fc1) (hf1)
        obtain ⟨bb, hbb⟩ : ∃ bb, decide (x < y) = bb := ⟨_, rfl⟩
        have HQ := Lib.hid (fun W => hbb ▸ less_c x y W)
        clear hbb
        have e3 := addw1 hc1 b3
        have e3' := addv1 hc1 b3
        have e4 := addw hfc b4
        have e5 := addw1 hfc1 b5
        clear hd hc hc1 hfc hfc1 b1 b2 b3 b4 b5
        cases bb with
        | true =>
          go_upto_region 3 with fail
          go_quiet (first | (go_at_call 47; refine Calls.quiet_of (HQ.out _)))
          have S2 := H1.out.2.2.drewN nq
          clear cx cy e4 e5 h1' fc0 fcn fc10 fc1n HQ hch'
          go_upto_region 5 with fail
          clear e3 e3'
          obtain ⟨k, hk⟩ : ∃ k, k = c1 := ⟨_, rfl⟩
          have hk2 : k < hi ∧ r < k := by have := HD.out; omega
          rw [← hk]
          clear hk h1 hch
          generalize wr.drewN nq = w2 at *
          obtain ⟨hkh, hrk⟩ := hk2
          obtain ⟨fr, hfr⟩ : ∃ fr, fr = f + r := ⟨_, rfl⟩
          obtain ⟨fk, hfk⟩ : ∃ fk, fk = f + k := ⟨_, rfl⟩
          have hfrn : fr < n := by omega
          have hfkn : fk < n := by omega
          have b1 : fr ≤ 9000000 := by omega
          have b2 : fk ≤ 9000000 := by omega
          have hr2 : k ≤ 1000000 := by omega
          have hmh : hi - k < hi - r := by omega
          obtain ⟨x, _, cx, _⟩ := SS.cell S2 (i := fr) (hfrn)
          obtain ⟨y, _, cy, _⟩ := SS.cell S2 (i := fk) (hfkn)
          obtain ⟨bb, hbb⟩ : ∃ bb, decide (x < y) = bb := ⟨_, rfl⟩
          have HQ := Lib.hid (fun W => hbb ▸ less_c x y W)
          clear hbb
          obtain ⟨fr0, fr1⟩ := nb hfrn
          obtain ⟨fk0, fk1⟩ := nb hfkn
          have e6 := addw hfr b1
          have e7 := addw hfk b2
          have HS2 := Lib.hid S2
          have HI := Lib.hid (And.intro hfrn (And.intro hfkn (And.intro hr2 hmh)))
          clear S2 hfr hfk hfrn hfkn hkh hrk b1 b2 hr2 hmh
          cases bb with
          | true =>
            go_quiet (first | (go_at_call 47; refine Calls.quiet_of (HQ.out _)))
            clear cx cy
            have S3 := HS2.out.drewN nq
            go_upto_region 6 with fail
            generalize w2.drewN nq = w3 at *
            obtain ⟨x, y, z, cx, fx, cy, fy, cz, fz, l3, hp3, S5⟩ := SS.swap S3 (i := fr) (j := fk) HI.out.1 HI.out.2.1
            have H3 := Lib.hid (And.intro hp3 S5)
            clear hp3 S5
            clear S3
            as_aux_lemma =>
              go_region
              go_wp2
              go_roundg (hi - r)
              case measure => exact H1.out.1
              case rel => exact ⟨k, l3, rfl, HI.out.2.2.2, HI.out.2.2.1, H3.out.1.trans H1.out.2.1, H3.out.2.drew⟩
          | false =>
            go_quiet (first | (go_at_call 47; refine Calls.quiet_of (HQ.out _)))
            clear cx cy
            have S3 := Lib.hid (HS2.out.drewN nq)
            go_wp2_with fail
            first | go_end0 | ((try simp only [Exit.inBlock, Exit.then]); refine bodyPost_ret (results_none rfl _ _ _) rfl ?_)
            exact ⟨rfl, _, H1.out.2.1, S3.out⟩
        | false =>
          go_upto_region 3 with fail
          go_quiet (first | (go_at_call 47; refine Calls.quiet_of (HQ.out _)))
          have S2 := H1.out.2.2.drewN nq
          clear cx cy e4 e5 h1' fc0 fcn fc10 fc1n HQ hch'
          go_upto_region 5 with fail
          clear e3 e3'
          obtain ⟨k, hk⟩ : ∃ k, k = ch := ⟨_, rfl⟩
          have hk2 : k < hi ∧ r < k := by have := HD.out; omega
          rw [← hk]
          clear hk h1 hch
          generalize wr.drewN nq = w2 at *
          obtain ⟨hkh, hrk⟩ := hk2
          obtain ⟨fr, hfr⟩ : ∃ fr, fr = f + r := ⟨_, rfl⟩
          obtain ⟨fk, hfk⟩ : ∃ fk, fk = f + k := ⟨_, rfl⟩
          have hfrn : fr < n := by omega
          have hfkn : fk < n := by omega
          have b1 : fr ≤ 9000000 := by omega
          have b2 : fk ≤ 9000000 := by omega
          have hr2 : k ≤ 1000000 := by omega
          have hmh : hi - k < hi - r := by omega
          obtain ⟨x, _, cx, _⟩ := SS.cell S2 (i := fr) (hfrn)
          obtain ⟨y, _, cy, _⟩ := SS.cell S2 (i := fk) (hfkn)
          obtain ⟨bb, hbb⟩ : ∃ bb, decide (x < y) = bb := ⟨_, rfl⟩
          have HQ := Lib.hid (fun W => hbb ▸ less_c x y W)
          clear hbb
          obtain ⟨fr0, fr1⟩ := nb hfrn
          obtain ⟨fk0, fk1⟩ := nb hfkn
          have e6 := addw hfr b1
          have e7 := addw hfk b2
          have HS2 := Lib.hid S2
          have HI := Lib.hid (And.intro hfrn (And.intro hfkn (And.intro hr2 hmh)))
          clear S2 hfr hfk hfrn hfkn hkh hrk b1 b2 hr2 hmh
          cases bb with
          | true =>
            go_quiet (first | (go_at_call 47; refine Calls.quiet_of (HQ.out _)))
            clear cx cy
            have S3 := HS2.out.drewN nq
            go_upto_region 6 with fail
            generalize w2.drewN nq = w3 at *
            obtain ⟨x, y, z, cx, fx, cy, fy, cz, fz, l3, hp3, S5⟩ := SS.swap S3 (i := fr) (j := fk) HI.out.1 HI.out.2.1
            have H3 := Lib.hid (And.intro hp3 S5)
            clear hp3 S5
            clear S3
            as_aux_lemma =>
              go_region
              go_wp2
              go_roundg (hi - r)
              case measure => exact H1.out.1
              case rel => exact ⟨k, l3, rfl, HI.out.2.2.2, HI.out.2.2.1, H3.out.1.trans H1.out.2.1, H3.out.2.drew⟩
          | false =>
            go_quiet (first | (go_at_call 47; refine Calls.quiet_of (HQ.out _)))
            clear cx cy
            have S3 := Lib.hid (HS2.out.drewN nq)
            go_wp2_with fail
            first | go_end0 | ((try simp only [Exit.inBlock, Exit.then]); refine bodyPost_ret (results_none rfl _ _ _) rfl ?_)
            exact ⟨rfl, _, H1.out.2.1, S3.out⟩
      · have h1' := (ige h1).2
        have e3 := addw1 hc1 b3
        have e3' := addv1 hc1 b3
        clear hd hc hc1 hfc hfc1 b1 b2 b3 b4 b5
        go_upto_region 3 with fail
        go_quiet (fail)
        have S2 := H1.out.2.2.drewN nq
        clear e3 e3' h1' fc0 fcn hch'
        go_upto_region 5 with fail
        obtain ⟨k, hk⟩ : ∃ k, k = ch := ⟨_, rfl⟩
        have hk2 : k < hi ∧ r < k := by have := HD.out; omega
        rw [← hk]
        clear hk h1 hch
        generalize wr.drewN nq = w2 at *
        obtain ⟨hkh, hrk⟩ := hk2
        obtain ⟨fr, hfr⟩ : ∃ fr, fr = f + r := ⟨_, rfl⟩
        obtain ⟨fk, hfk⟩ : ∃ fk, fk = f + k := ⟨_, rfl⟩
        have hfrn : fr < n := by omega
        have hfkn : fk < n := by omega
        have b1 : fr ≤ 9000000 := by omega
        have b2 : fk ≤ 9000000 := by omega
        have hr2 : k ≤ 1000000 := by omega
        have hmh : hi - k < hi - r := by omega
        obtain ⟨x, _, cx, _⟩ := SS.cell S2 (i := fr) (hfrn)
        obtain ⟨y, _, cy, _⟩ := SS.cell S2 (i := fk) (hfkn)
        obtain ⟨bb, hbb⟩ : ∃ bb, decide (x < y) = bb := ⟨_, rfl⟩
        have HQ := Lib.hid (fun W => hbb ▸ less_c x y W)
        clear hbb
        obtain ⟨fr0, fr1⟩ := nb hfrn
        obtain ⟨fk0, fk1⟩ := nb hfkn
        have e6 := addw hfr b1
        have e7 := addw hfk b2
        have HS2 := Lib.hid S2
        have HI := Lib.hid (And.intro hfrn (And.intro hfkn (And.intro hr2 hmh)))
        clear S2 hfr hfk hfrn hfkn hkh hrk b1 b2 hr2 hmh
        cases bb with
        | true =>
          go_quiet (first | (go_at_call 47; refine Calls.quiet_of (HQ.out _)))
          clear cx cy
          have S3 := HS2.out.drewN nq
          go_upto_region 6 with fail
          generalize w2.drewN nq = w3 at *
          obtain ⟨x, y, z, cx, fx, cy, fy, cz, fz, l3, hp3, S5⟩ := SS.swap S3 (i := fr) (j := fk) HI.out.1 HI.out.2.1
          have H3 := Lib.hid (And.intro hp3 S5)
          clear hp3 S5
          clear S3
          as_aux_lemma =>
            go_region
            go_wp2
            go_roundg (hi - r)
            case measure => exact H1.out.1
            case rel => exact ⟨k, l3, rfl, HI.out.2.2.2, HI.out.2.2.1, H3.out.1.trans H1.out.2.1, H3.out.2.drew⟩
        | false =>
          go_quiet (first | (go_at_call 47; refine Calls.quiet_of (HQ.out _)))
          clear cx cy
          have S3 := Lib.hid (HS2.out.drewN nq)
          go_wp2_with fail
          first | go_end0 | ((try simp only [Exit.inBlock, Exit.then]); refine bodyPost_ret (results_none rfl _ _ _) rfl ?_)
          exact ⟨rfl, _, H1.out.2.1, S3.out⟩
    · have hch' := (ige hch).1
      clear hd hc hc1 hfc hfc1 b1 b2 b3 b4 b5
      go_wp2_with fail
      first | go_end0 | ((try simp only [Exit.inBlock, Exit.then]); refine bodyPost_ret (results_none rfl _ _ _) rfl ?_)
      exact ⟨rfl, _, H1.out.2⟩
set_option maxRecDepth 100000 in
set_option maxHeartbeats 8000000 in
theorem reverse_c (g n c a b : Nat) (hab : a < b) (hb : b ≤ n) (hn : n ≤ 1000000) (l : List Int) (w : World) (h : SS w w g n c l) : Calls Try.prog 45 #[.slice (some ⟨g, 0, none⟩) n c, .int .i64 a, .int .i64 b] w (SPost (.tuple #[]) w g n c l) := by
  have H0 := Lib.hid h
  obtain ⟨b1, hb1⟩ : ∃ b1, b = 1 + b1 := ⟨b - 1, by omega⟩
  have e1 := subv1 hb1 (by omega)
  have HB := Lib.hid hb1
  clear h
  go_enter Try.func45, Try.ntmps45
  clear hb1
  go_wp2_with fail
  clear e1
  have hb1 := HB.out
  go_loopg [6, 7] (b + 1) (fun m v6 v7 wx => ∃ (i j : Nat) (l' : List Int), v6 = .int .i64 i ∧ v7 = .int .i64 j ∧ j < m ∧ j < n ∧ i ≤ j + 1 ∧ l'.Perm l ∧ SS w wx g n c l')
  case atStart => exact ⟨a, b1, l, rfl, by go_num, by omega, by omega, by omega, List.Perm.refl _, H0.out⟩
  case round =>
    clear H0 hb1
    obtain ⟨i, j, l1, rfl, rfl, him, hj, hij, hp, S1⟩ := hrel
    have H1 := Lib.hid (And.intro him (And.intro hp S1))
    by_cases hlt : i < j
    · have hlt' : (i : Int) < (j : Int) := by omega
      obtain ⟨jm, hjm⟩ : ∃ jm, j = 1 + jm := ⟨j - 1, by omega⟩
      obtain ⟨ip, hip⟩ : ∃ ip, ip = i + 1 := ⟨_, rfl⟩
      obtain ⟨hin, hj9, hi9⟩ : i < n ∧ j ≤ 9000000 ∧ ip ≤ 9000000 := by omega
      go_upto_region 3 with fail
      obtain ⟨x, y, z, cx, fx, cy, fy, cz, fz, l3, hp3, S5⟩ := SS.swap S1 (i := i) (j := j) hin hj
      have H3 := Lib.hid (And.intro hp3 S5)
      clear hp3 S5
      have HJ := Lib.hid (show jm < j ∧ jm < n ∧ ip ≤ jm + 1 by omega)
      obtain ⟨i0, i1⟩ := nb hin
      obtain ⟨j0, j1⟩ := nb hj
      have e1 := subw1 hjm hj9
      have e2 := subv1 hjm hj9
      have e3 := addw1 hip hi9
      have e4 := addv1 hip hi9
      clear hp S1 him hjm hip hlt' hin hj9 hi9 hj hij hlt
      as_aux_lemma =>
        go_region
        go_wp2
        go_roundg j
        case measure => exact H1.out.1
        case rel => exact ⟨ip, jm, l3, rfl, rfl, HJ.out.1, HJ.out.2.1, HJ.out.2.2, H3.out.1.trans H1.out.2.1, H3.out.2.drew⟩
    · have hlt' : ¬ (i : Int) < (j : Int) := by omega
      clear hp S1 him
      go_wp2_with fail
      first | go_end0 | ((try simp only [Exit.inBlock, Exit.then]); refine bodyPost_ret (results_none rfl _ _ _) rfl ?_)
      exact ⟨rfl, _, H1.out.2⟩
end Go.Proofs.Ytjhmkmcongjngaa
