/- The sort of []uint8: a few put in their places. -/
import Derived.Test.YtjhmkmcongjngaaZB
set_option linter.unusedVariables false
set_option linter.unusedSimpArgs false
namespace Go.Proofs.Ytjhmkmcongjngaa
open Go.RowKit Go.Tat Go.Proofs.YtjhmkmcongjngaaW.PrintWords
def BPost (w0 : World) (g n c : Nat) (l : List Int) (e : Ending) (w' : World) : Prop := ∃ (t : Bool) (l' : List Int), e = .returned (.bool t) ∧ l'.Perm l ∧ SS w0 w' g n c l'
theorem SS.drawn {w0 w : World} {g n c : Nat} {l : List Int} (h : SS w0 w g n c l) (k : Nat) : SS w0 (w.drewN k) g n c l := SS.trans h ((St.start h.sat (fun b hb k hk => by rw [List.mem_singleton.1 hb] at hk; cases hk; rfl)).drewN k)
set_option maxRecDepth 100000 in
set_option maxHeartbeats 16000000 in
theorem partial_c (g n c a b : Nat) (hab : a < b) (hb : b ≤ n) (hn : n ≤ 1000000) (l : List Int) (w : World) (h : SS w w g n c l) : Calls Try.prog 46 #[.slice (some ⟨g, 0, none⟩) n c, .int .i64 a, .int .i64 b] w (BPost w g n c l) := by
  have H0 := Lib.hid h
  have b1 : (b : Int) ≤ 1000000 := by omega
  have b2 : (a : Int) ≤ 1000000 := by omega
  have HA := Lib.hid (show (a : Int) + 1 = ((a + 1 : Nat) : Int) by omega)
  clear h
  go_enter Try.func46, Try.ntmps46
  go_wp2_with fail
  go_loopg [7, 8] 6 (fun m v7 v8 wx => ∃ (i j : Nat) (l' : List Int), v7 = .int .i64 i ∧ v8 = .int .i64 j ∧ 5 - j < m ∧ j ≤ 5 ∧ a < i ∧ i ≤ b ∧ l'.Perm l ∧ SS w wx g n c l')
  case atStart => exact ⟨a + 1, 0, l, congrArg (Value.int .i64) HA.out, rfl, by omega, by omega, by omega, by omega, List.Perm.refl _, H0.out⟩
  case round =>
    clear H0
    obtain ⟨i1, k, l1, rfl, rfl, hm, hk, hi1, hi2, hp1, S1⟩ := hrel
    have H1 := Lib.hid (And.intro hp1 S1)
    have HK := Lib.hid (And.intro hm hk)
    clear hp1 S1 hm
    by_cases hk5 : k < 5
    · have hk5' : (k : Int) < 5 := by omega
      go_upto_block 2 with fail
      clear hk5'
      go_cut [7] (fun v7 wx => ∃ i : Nat, v7 = .int .i64 i ∧ i1 ≤ i ∧ i ≤ b ∧ SS w wx g n c l1)
      case first =>
        go_wp2_with fail
        go_loopg [7] (b + 1) (fun m v7 wx => ∃ i : Nat, v7 = .int .i64 i ∧ b - i < m ∧ i1 ≤ i ∧ i ≤ b ∧ SS w wx g n c l1)
        case atStart => exact ⟨i1, rfl, by omega, by omega, by omega, H1.out.2⟩
        case round =>
          obtain ⟨i, rfl, him, hi3, hi4, S2⟩ := hrel
          have H2 := Lib.hid S2
          have HIM := Lib.hid him
          have HX := Lib.hid (And.intro hi3 hi4)
          clear S2 him
          by_cases hib : i < b
          · have hib' : (i : Int) < (b : Int) := by omega
            have hin : i < n := by omega
            obtain ⟨im, him⟩ : ∃ im, i = im + 1 := ⟨i - 1, by omega⟩
            have himn : im < n := by omega
            have hi9 : im < 4611686018427387904 := by omega
            have HJ := Lib.hid (show b - (i + 1) < b - i ∧ i1 ≤ i + 1 ∧ i + 1 ≤ b ∧ (i : Int) + 1 = ((i + 1 : Nat) : Int) by omega)
            have i2 : (i : Int) ≤ 1000000 := by omega
            obtain ⟨x, _, cx, _⟩ := SS.cell H2.out (i := i) hin
            obtain ⟨y, _, cy, _⟩ := SS.cell H2.out (i := im) himn
            obtain ⟨bb, hbb⟩ : ∃ bb, decide (x < y) = bb := ⟨_, rfl⟩
            have HQ := Lib.hid (fun W => hbb ▸ less_c x y W)
            obtain ⟨i0', i1'⟩ := nb hin
            obtain ⟨a0', a1'⟩ := nb himn
            have e1 := ipred him hi9
            clear hbb hin himn hi3 hi4 hib him hi9
            cases bb with
            | false =>
              go_upto_region 5 with fail
              go_quiet (first | (go_at_call 47; refine Calls.quiet_of (HQ.out _)))
              have S2 := Lib.hid (SS.drawn H2.out nq)
              clear cx cy HQ e1
              go_wp2_with fail
              go_roundg (b - i)
              case measure => exact HIM.out
              case rel => exact ⟨i + 1, congrArg (Value.int .i64) HJ.out.2.2.2, HJ.out.1, HJ.out.2.1, HJ.out.2.2.1, S2.out⟩
            | true =>
              go_upto_region 5 with fail
              go_quiet (first | (go_at_call 47; refine Calls.quiet_of (HQ.out _)))
              have S2 := Lib.hid (SS.drawn H2.out nq)
              clear cx cy HQ e1
              go_wp2_with fail
              go_meet
              exact ⟨i, rfl, HX.out.1, HX.out.2, S2.out⟩
          · have hib' : ¬ (i : Int) < (b : Int) := by omega
            go_upto_region 5 with fail
            go_quiet (fail)
            have S2 := Lib.hid (SS.drawn H2.out nq)
            go_wp2_with fail
            go_meet
            exact ⟨i, rfl, HX.out.1, HX.out.2, S2.out⟩
      case rest =>
        obtain ⟨i, rfl, hi3, hi4, S3⟩ := hcut
        have H3 := Lib.hid S3
        have HP1 := Lib.hid H1.out.1
        clear H1
        by_cases hib : i = b
        · subst hib
          clear S3
          go_wp2_with fail
          go_ret
          exact ⟨true, l1, rfl, HP1.out, H3.out⟩
        · have hib' : ((i : Int) == (b : Int)) = false := by have : ¬ (i : Int) = (b : Int) := by omega
                                                             simpa using this
          have i2 : (i : Int) ≤ 1000000 := by omega
          by_cases h50 : b - a < 50
          · have h50' : (b : Int) - (a : Int) < 50 := by omega
            have hab' : (a : Int) < (b : Int) := by omega
            clear S3
            go_wp2_with fail
            go_ret
            exact ⟨false, l1, rfl, HP1.out, H3.out⟩
          · have h50' : ¬ (b : Int) - (a : Int) < 50 := by omega
            have hab' : (a : Int) < (b : Int) := by omega
            go_upto_region 11 with fail
            clear h50' hab' hib'
            have hin : i < n := by omega
            obtain ⟨im, him⟩ : ∃ im, i = im + 1 := ⟨i - 1, by omega⟩
            have himn : im < n := by omega
            have hi9 : im < 4611686018427387904 := by omega
            obtain ⟨x, y, z, cx, fx, cy, fy, cz, fz, l2, hp2, S4⟩ := SS.swap S3 (i := i) (j := im) hin himn
            have H4 := Lib.hid (And.intro hp2 S4)
            have HI := Lib.hid (show i = im + 1 ∧ a < i ∧ i < b by omega)
            have HI2 := Lib.hid (show (i : Int) - 1 = (im : Int) ∧ (i : Int) + 1 = ((i + 1 : Nat) : Int) by omega)
            obtain ⟨i0', i1'⟩ := nb hin
            obtain ⟨a0', a1'⟩ := nb himn
            have e1 := ipred him hi9
            clear hp2 S4 S3 hin himn hi9 him hi3 hi4 hi1 hi2 hib
            go_region
            have H5 := Lib.hid (show SS w _ g n c l2 from H4.out.2.drew)
            have HP2 := Lib.hid (H4.out.1.trans HP1.out)
            clear cx fx cy fy cz fz e1 H4 i0' i1' a0' a1' H3 HP1
            generalize World.drew _ = w5 at *
            by_cases h2 : 2 ≤ (i : Int) - (a : Int)
            · have ia := HI2.out.1
              have i3 : (1 : Int) ≤ (i : Int) := by have := HI.out; omega
              go_upto_block 4 with fail
              clear ia i3 h2
              go_cut [9] (fun v9 wx => ∃ l', l'.Perm l ∧ SS w wx g n c l')
              case first =>
                go_wp2_with fail
                go_loopg [9] (im + 1) (fun m v9 wx => ∃ (j : Nat) (l' : List Int), v9 = .int .i64 j ∧ j < m ∧ j ≤ im ∧ l'.Perm l ∧ SS w wx g n c l')
                case atStart => exact ⟨im, l2, rfl, by omega, by omega, HP2.out, H5.out⟩
                case round =>
                  clear H5 HP2
                  obtain ⟨j, l3, rfl, hjm, hj, hp3, S6⟩ := hrel
                  have H6 := Lib.hid (And.intro hp3 S6)
                  have HJM := Lib.hid hjm
                  clear hp3 S6 hjm
                  by_cases hj1 : 1 ≤ j
                  · have hj1' : (1 : Int) ≤ (j : Int) := by omega
                    have hjn : j < n := by have := HI.out; omega
                    obtain ⟨jm, hjm⟩ : ∃ jm, j = jm + 1 := ⟨j - 1, by omega⟩
                    have hjmn : jm < n := by omega
                    have hj9 : jm < 4611686018427387904 := by omega
                    have j2 : (j : Int) ≤ 1000000 := by omega
                    have HF := Lib.hid (show (j : Int) - 1 = (jm : Int) ∧ jm < j ∧ jm ≤ im by  omega)
                    obtain ⟨x, _, cx, _⟩ := SS.cell H6.out.2 (i := j) hjn
                    obtain ⟨y, _, cy, _⟩ := SS.cell H6.out.2 (i := jm) hjmn
                    obtain ⟨bb, hbb⟩ : ∃ bb, decide (x < y) = bb := ⟨_, rfl⟩
                    have HQ := Lib.hid (fun W => hbb ▸ less_c x y W)
                    have HN := Lib.hid (And.intro hjn hjmn)
                    obtain ⟨j0', j1'⟩ := nb hjn
                    obtain ⟨m0', m1'⟩ := nb hjmn
                    have e1 := ipred hjm hj9
                    clear hbb hjn hjmn hj9 hjm hj hj1
                    cases bb with
                    | true =>
                      go_upto_region 16 with fail
                      go_quiet (first | (go_at_call 47; refine Calls.quiet_of (HQ.out _)))
                      have S7 := SS.drawn H6.out.2 nq
                      clear cx cy HQ
                      go_upto_region 17 with fail
                      generalize wr.drewN nq = w7 at *
                      obtain ⟨x, y, z, cx, fx, cy, fy, cz, fz, l4, hp4, S8⟩ := SS.swap S7 (i := j) (j := jm) HN.out.1 HN.out.2
                      have H8 := Lib.hid (And.intro hp4 S8)
                      clear hp4 S8 S7
                      as_aux_lemma =>
                        go_region
                        go_wp2
                        go_roundg j
                        case measure => exact HJM.out
                        case rel => exact ⟨jm, l4, rfl, HF.out.2.1, HF.out.2.2, H8.out.1.trans H6.out.1, H8.out.2.drew⟩
                    | false =>
                      go_upto_region 16 with fail
                      go_quiet (first | (go_at_call 47; refine Calls.quiet_of (HQ.out _)))
                      have S7 := Lib.hid (SS.drawn H6.out.2 nq)
                      clear cx cy HQ e1
                      go_wp2_with fail
                      go_meet
                      exact ⟨l3, H6.out.1, S7.out⟩
                  · have hj1' : ¬ (1 : Int) ≤ (j : Int) := by omega
                    go_wp2_with fail
                    go_meet
                    exact ⟨l3, H6.out⟩
              case rest =>
                clear H5 HP2
                obtain ⟨l2, hpx, Sx⟩ := hcut
                have H5 := Lib.hid Sx
                have HP2 := Lib.hid hpx
                clear hpx Sx
                go_upto_region 18 with fail
                by_cases hbi : 2 ≤ (b : Int) - (i : Int)
                · go_wp2_with fail
                  clear hbi
                  go_loopg [10] (b + 1) (fun m v10 wx => ∃ (j : Nat) (l' : List Int), v10 = .int .i64 j ∧ b - j < m ∧ i < j ∧ l'.Perm l ∧ SS w wx g n c l')
                  case atStart => exact ⟨i + 1, l2, congrArg (Value.int .i64) HI2.out.2, by omega, by omega, HP2.out, H5.out⟩
                  case round =>
                    clear H5 HP2
                    obtain ⟨j, l3, rfl, hjm, hj, hp3, S6⟩ := hrel
                    have H6 := Lib.hid (And.intro hp3 S6)
                    have HJM := Lib.hid hjm
                    clear hp3 S6 hjm
                    by_cases hjb : j < b
                    · have hjb' : (j : Int) < (b : Int) := by omega
                      have hjn : j < n := by omega
                      obtain ⟨jm, hjm⟩ : ∃ jm, j = jm + 1 := ⟨j - 1, by omega⟩
                      have hjmn : jm < n := by omega
                      have hj9 : jm < 4611686018427387904 := by omega
                      have j2 : (j : Int) ≤ 1000000 := by omega
                      have HF := Lib.hid (show (j : Int) + 1 = ((j + 1 : Nat) : Int) ∧ b - (j + 1) < b - j ∧ i < j + 1 by  omega)
                      obtain ⟨x, _, cx, _⟩ := SS.cell H6.out.2 (i := j) hjn
                      obtain ⟨y, _, cy, _⟩ := SS.cell H6.out.2 (i := jm) hjmn
                      obtain ⟨bb, hbb⟩ : ∃ bb, decide (x < y) = bb := ⟨_, rfl⟩
                      have HQ := Lib.hid (fun W => hbb ▸ less_c x y W)
                      have HN := Lib.hid (And.intro hjn hjmn)
                      obtain ⟨j0', j1'⟩ := nb hjn
                      obtain ⟨m0', m1'⟩ := nb hjmn
                      have e1 := ipred hjm hj9
                      clear hbb hjn hjmn hj9 hjm hj hjb
                      cases bb with
                      | true =>
                        go_upto_region 22 with fail
                        go_quiet (first | (go_at_call 47; refine Calls.quiet_of (HQ.out _)))
                        have S7 := SS.drawn H6.out.2 nq
                        clear cx cy HQ
                        go_upto_region 23 with fail
                        generalize wr.drewN nq = w7 at *
                        obtain ⟨x, y, z, cx, fx, cy, fy, cz, fz, l4, hp4, S8⟩ := SS.swap S7 (i := j) (j := jm) HN.out.1 HN.out.2
                        have H8 := Lib.hid (And.intro hp4 S8)
                        clear hp4 S8 S7
                        as_aux_lemma =>
                          go_region
                          go_wp2
                          go_roundg (b - j)
                          case measure => exact HJM.out
                          case rel => exact ⟨j + 1, l4, congrArg (Value.int .i64) HF.out.1, HF.out.2.1, HF.out.2.2, H8.out.1.trans H6.out.1, H8.out.2.drew⟩
                      | false =>
                        go_upto_region 22 with fail
                        go_quiet (first | (go_at_call 47; refine Calls.quiet_of (HQ.out _)))
                        have S7 := Lib.hid (SS.drawn H6.out.2 nq)
                        clear cx cy HQ e1
                        go_wp2_with fail
                        go_roundg (5 - k)
                        case measure => exact HK.out.1
                        case rel => exact ⟨i, k + 1, l3, rfl, by go_num, by omega, by omega, HI.out.2.1, Nat.le_of_lt HI.out.2.2, H6.out.1, S7.out⟩
                    · have hjb' : ¬ (j : Int) < (b : Int) := by omega
                      go_wp2_with fail
                      go_roundg (5 - k)
                      case measure => exact HK.out.1
                      case rel => exact ⟨i, k + 1, l3, rfl, by go_num, by omega, by omega, HI.out.2.1, Nat.le_of_lt HI.out.2.2, H6.out.1, H6.out.2⟩
                · go_wp2_with fail
                  go_roundg (5 - k)
                  case measure => exact HK.out.1
                  case rel => exact ⟨i, k + 1, l2, rfl, by go_num, by omega, by omega, HI.out.2.1, Nat.le_of_lt HI.out.2.2, HP2.out, H5.out⟩
            · go_upto_region 18 with fail
              by_cases hbi : 2 ≤ (b : Int) - (i : Int)
              · go_wp2_with fail
                clear hbi
                go_loopg [10] (b + 1) (fun m v10 wx => ∃ (j : Nat) (l' : List Int), v10 = .int .i64 j ∧ b - j < m ∧ i < j ∧ l'.Perm l ∧ SS w wx g n c l')
                case atStart => exact ⟨i + 1, l2, congrArg (Value.int .i64) HI2.out.2, by omega, by omega, HP2.out, H5.out⟩
                case round =>
                  clear H5 HP2
                  obtain ⟨j, l3, rfl, hjm, hj, hp3, S6⟩ := hrel
                  have H6 := Lib.hid (And.intro hp3 S6)
                  have HJM := Lib.hid hjm
                  clear hp3 S6 hjm
                  by_cases hjb : j < b
                  · have hjb' : (j : Int) < (b : Int) := by omega
                    have hjn : j < n := by omega
                    obtain ⟨jm, hjm⟩ : ∃ jm, j = jm + 1 := ⟨j - 1, by omega⟩
                    have hjmn : jm < n := by omega
                    have hj9 : jm < 4611686018427387904 := by omega
                    have j2 : (j : Int) ≤ 1000000 := by omega
                    have HF := Lib.hid (show (j : Int) + 1 = ((j + 1 : Nat) : Int) ∧ b - (j + 1) < b - j ∧ i < j + 1 by  omega)
                    obtain ⟨x, _, cx, _⟩ := SS.cell H6.out.2 (i := j) hjn
                    obtain ⟨y, _, cy, _⟩ := SS.cell H6.out.2 (i := jm) hjmn
                    obtain ⟨bb, hbb⟩ : ∃ bb, decide (x < y) = bb := ⟨_, rfl⟩
                    have HQ := Lib.hid (fun W => hbb ▸ less_c x y W)
                    have HN := Lib.hid (And.intro hjn hjmn)
                    obtain ⟨j0', j1'⟩ := nb hjn
                    obtain ⟨m0', m1'⟩ := nb hjmn
                    have e1 := ipred hjm hj9
                    clear hbb hjn hjmn hj9 hjm hj hjb
                    cases bb with
                    | true =>
                      go_upto_region 22 with fail
                      go_quiet (first | (go_at_call 47; refine Calls.quiet_of (HQ.out _)))
                      have S7 := SS.drawn H6.out.2 nq
                      clear cx cy HQ
                      go_upto_region 23 with fail
                      generalize wr.drewN nq = w7 at *
                      obtain ⟨x, y, z, cx, fx, cy, fy, cz, fz, l4, hp4, S8⟩ := SS.swap S7 (i := j) (j := jm) HN.out.1 HN.out.2
                      have H8 := Lib.hid (And.intro hp4 S8)
                      clear hp4 S8 S7
                      as_aux_lemma =>
                        go_region
                        go_wp2
                        go_roundg (b - j)
                        case measure => exact HJM.out
                        case rel => exact ⟨j + 1, l4, congrArg (Value.int .i64) HF.out.1, HF.out.2.1, HF.out.2.2, H8.out.1.trans H6.out.1, H8.out.2.drew⟩
                    | false =>
                      go_upto_region 22 with fail
                      go_quiet (first | (go_at_call 47; refine Calls.quiet_of (HQ.out _)))
                      have S7 := Lib.hid (SS.drawn H6.out.2 nq)
                      clear cx cy HQ e1
                      go_wp2_with fail
                      go_roundg (5 - k)
                      case measure => exact HK.out.1
                      case rel => exact ⟨i, k + 1, l3, rfl, by go_num, by omega, by omega, HI.out.2.1, Nat.le_of_lt HI.out.2.2, H6.out.1, S7.out⟩
                  · have hjb' : ¬ (j : Int) < (b : Int) := by omega
                    go_wp2_with fail
                    go_roundg (5 - k)
                    case measure => exact HK.out.1
                    case rel => exact ⟨i, k + 1, l3, rfl, by go_num, by omega, by omega, HI.out.2.1, Nat.le_of_lt HI.out.2.2, H6.out.1, H6.out.2⟩
              · go_wp2_with fail
                go_roundg (5 - k)
                case measure => exact HK.out.1
                case rel => exact ⟨i, k + 1, l2, rfl, by go_num, by omega, by omega, HI.out.2.1, Nat.le_of_lt HI.out.2.2, HP2.out, H5.out⟩
    · have hk5' : ¬ (k : Int) < 5 := by omega
      go_wp2_with fail
      go_ret
      exact ⟨false, l1, rfl, H1.out⟩
end Go.Proofs.Ytjhmkmcongjngaa
