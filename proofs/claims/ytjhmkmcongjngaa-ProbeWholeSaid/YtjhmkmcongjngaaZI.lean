/- The sort of []uint8: a row parted at a pivot. -/
import Derived.Test.YtjhmkmcongjngaaZH
set_option linter.unusedVariables false
set_option linter.unusedSimpArgs false
namespace Go.Proofs.Ytjhmkmcongjngaa
open Go.RowKit Go.Tat Go.Proofs.YtjhmkmcongjngaaW.PrintWords
set_option maxRecDepth 100000 in
set_option maxHeartbeats 16000000 in
theorem part_c (g n c a b p : Nat) (hab : a < b) (hb : b ≤ n) (hn : n ≤ 1000000) (hp : a ≤ p ∧ p < b) (l : List Int) (w : World) (h : SS w w g n c l) : Calls Try.prog 49 #[.slice (some ⟨g, 0, none⟩) n c, .int .i64 a, .int .i64 b, .int .i64 p] w (QPost w g n c l a b) := by
  have H0 := Lib.hid h
  have han : a < n := by omega
  have hpn : p < n := by omega
  obtain ⟨j0, hj0⟩ : ∃ j0, b = 1 + j0 := ⟨b - 1, by omega⟩
  obtain ⟨i0, hi0⟩ : ∃ i0, i0 = a + 1 := ⟨_, rfl⟩
  have HJ := Lib.hid (show a ≤ j0 ∧ j0 < b ∧ (b : Int) - 1 = (j0 : Int) ∧ (a : Int) + 1 = (i0 : Int) ∧ a < i0 ∧ i0 ≤ b ∧ i0 ≤ j0 + 1 by omega)
  have b1 : (b : Int) ≤ 1000000 := by omega
  have b2 : (a : Int) ≤ 1000000 := by omega
  have b3 : (1 : Int) ≤ (b : Int) := by omega
  clear hp hj0 hi0
  go_enter Try.func49, Try.ntmps49
  go_upto_region 1 with fail
  obtain ⟨x, y, z, cx, fx, cy, fy, cz, fz, l1, hp1, S1⟩ := SS.swap h (i := a) (j := p) han hpn
  have H1 := Lib.hid (And.intro hp1 S1)
  obtain ⟨a0, a1⟩ := nb han
  obtain ⟨p0, p1⟩ := nb hpn
  clear h hp1 S1 han hpn
  go_region
  have H2 := Lib.hid (show SS w _ g n c l1 from H1.out.2.drew)
  have HP1 := Lib.hid H1.out.1
  clear cx fx cy fy cz fz a0 a1 p0 p1 H1
  generalize World.drew _ = w2 at *
  have ej := HJ.out.2.2.1
  have ei := HJ.out.2.2.2.1
  go_upto_block 0 with fail
  clear ej ei
  obtain ⟨q1, q2, q3, q4, q5, q6, q7⟩ := HJ.out
  clear q3 q4
  go_upto_block 0 with fail
  go_cut [10] (fun v10 wx => ∃ i : Nat, v10 = .int .i64 i ∧ i0 ≤ i ∧ i ≤ b ∧ SS w wx g n c l1)
  case first =>
    go_wp2_with fail
    go_loopg [10] (b + 1) (fun m v10 wx => ∃ i : Nat, v10 = .int .i64 i ∧ b - i < m ∧ i0 ≤ i ∧ i ≤ b ∧ SS w wx g n c l1)
    case atStart => exact ⟨i0, rfl, by omega, by omega, by omega, H2.out⟩
    case round =>
      obtain ⟨i, rfl, him, hi0, hib, S1⟩ := hrel
      have H1 := Lib.hid S1
      have HIM := Lib.hid him
      have HX := Lib.hid (And.intro hi0 hib)
      clear S1 him
      by_cases hij : i ≤ j0
      · have hij' : (i : Int) ≤ (j0 : Int) := by omega
        have hin : i < n := by omega
        have HJ := Lib.hid (show b - (i + 1) < b - i ∧ i0 ≤ i + 1 ∧ i + 1 ≤ b ∧ (i : Int) + 1 = ((i + 1 : Nat) : Int) by omega)
        have i2 : (i : Int) ≤ 1000000 := by omega
        have han : a < n := by omega
        obtain ⟨x, _, cx, _⟩ := SS.cell H1.out (i := i) hin
        obtain ⟨y, _, cy, _⟩ := SS.cell H1.out (i := a) han
        obtain ⟨bb, hbb⟩ : ∃ bb, decide (x < y) = bb := ⟨_, rfl⟩
        have HQ := Lib.hid (fun W => hbb ▸ less_c x y W)
        obtain ⟨i0', i1'⟩ := nb hin
        obtain ⟨a0', a1'⟩ := nb han
        clear hbb hin han hi0 hib hij
        cases bb with
        | true =>
          go_upto_region 3 with fail
          go_quiet (first | (go_at_call 47; refine Calls.quiet_of (HQ.out _)))
          have S2 := Lib.hid (SS.trans H1.out ((St.start H1.out.sat (fun b hb k hk => by rw [List.mem_singleton.1 hb] at hk; cases hk; rfl)).drewN nq))
          clear cx cy HQ
          go_wp2_with fail
          go_roundg (b - i)
          case measure => exact HIM.out
          case rel => exact ⟨i + 1, congrArg (Value.int .i64) HJ.out.2.2.2, HJ.out.1, HJ.out.2.1, HJ.out.2.2.1, S2.out⟩
        | false =>
          go_upto_region 3 with fail
          go_quiet (first | (go_at_call 47; refine Calls.quiet_of (HQ.out _)))
          have S2 := Lib.hid (SS.trans H1.out ((St.start H1.out.sat (fun b hb k hk => by rw [List.mem_singleton.1 hb] at hk; cases hk; rfl)).drewN nq))
          clear cx cy HQ
          go_wp2_with fail
          go_meet
          exact ⟨i, rfl, HX.out.1, HX.out.2, S2.out⟩
      · have hij' : ¬ (i : Int) ≤ (j0 : Int) := by omega
        go_upto_region 3 with fail
        go_quiet (fail)
        have S2 := Lib.hid (SS.trans H1.out ((St.start H1.out.sat (fun b hb k hk => by rw [List.mem_singleton.1 hb] at hk; cases hk; rfl)).drewN nq))
        go_wp2_with fail
        go_meet
        exact ⟨i, rfl, HX.out.1, HX.out.2, S2.out⟩
  case rest =>
    obtain ⟨i, rfl, hi3, hi4, S4⟩ := hcut
    have H4 := Lib.hid S4
    clear S4 H2
    go_upto_block 2 with fail
    go_cut [11] (fun v11 wx => ∃ j : Nat, v11 = .int .i64 j ∧ a ≤ j ∧ j ≤ j0 ∧ SS w wx g n c l1)
    case first =>
      go_wp2_with fail
      go_loopg [11] (j0 + 1) (fun m v11 wx => ∃ j : Nat, v11 = .int .i64 j ∧ j < m ∧ a ≤ j ∧ j ≤ j0 ∧ SS w wx g n c l1)
      case atStart => exact ⟨j0, rfl, by omega, by omega, by omega, H4.out⟩
      case round =>
        obtain ⟨j, rfl, hjm, hj0, hjb, S1⟩ := hrel
        have H1 := Lib.hid S1
        have HIM := Lib.hid hjm
        have HX := Lib.hid (And.intro hj0 hjb)
        clear S1 hjm
        by_cases hij : i ≤ j
        · have hij' : (i : Int) ≤ (j : Int) := by omega
          have hjn : j < n := by omega
          obtain ⟨jm, hjm⟩ : ∃ jm, j = 1 + jm := ⟨j - 1, by omega⟩
          have HJ := Lib.hid (show jm < j ∧ a ≤ jm ∧ jm ≤ j0 ∧ (j : Int) - 1 = (jm : Int) by omega)
          have j2 : (j : Int) ≤ 1000000 := by omega
          have j3 : (1 : Int) ≤ (j : Int) := by omega
          have han : a < n := by omega
          obtain ⟨x, _, cx, _⟩ := SS.cell H1.out (i := j) hjn
          obtain ⟨y, _, cy, _⟩ := SS.cell H1.out (i := a) han
          obtain ⟨bb, hbb⟩ : ∃ bb, decide (x < y) = bb := ⟨_, rfl⟩
          have HQ := Lib.hid (fun W => hbb ▸ less_c x y W)
          obtain ⟨j0', j1'⟩ := nb hjn
          obtain ⟨a0', a1'⟩ := nb han
          clear hbb hjn han hj0 hjb hij hjm
          cases bb with
          | false =>
            go_upto_region 5 with fail
            go_quiet (first | (go_at_call 47; refine Calls.quiet_of (HQ.out _)))
            have S2 := Lib.hid (SS.trans H1.out ((St.start H1.out.sat (fun b hb k hk => by rw [List.mem_singleton.1 hb] at hk; cases hk; rfl)).drewN nq))
            clear cx cy HQ
            go_wp2_with fail
            go_roundg j
            case measure => exact HIM.out
            case rel => exact ⟨jm, congrArg (Value.int .i64) HJ.out.2.2.2, HJ.out.1, HJ.out.2.1, HJ.out.2.2.1, S2.out⟩
          | true =>
            go_upto_region 5 with fail
            go_quiet (first | (go_at_call 47; refine Calls.quiet_of (HQ.out _)))
            have S2 := Lib.hid (SS.trans H1.out ((St.start H1.out.sat (fun b hb k hk => by rw [List.mem_singleton.1 hb] at hk; cases hk; rfl)).drewN nq))
            clear cx cy HQ
            go_wp2_with fail
            go_meet
            exact ⟨j, rfl, HX.out.1, HX.out.2, S2.out⟩
        · have hij' : ¬ (i : Int) ≤ (j : Int) := by omega
          go_upto_region 5 with fail
          go_quiet (fail)
          have S2 := Lib.hid (SS.trans H1.out ((St.start H1.out.sat (fun b hb k hk => by rw [List.mem_singleton.1 hb] at hk; cases hk; rfl)).drewN nq))
          go_wp2_with fail
          go_meet
          exact ⟨j, rfl, HX.out.1, HX.out.2, S2.out⟩
    case rest =>
      obtain ⟨j, rfl, hj3, hj4, S5⟩ := hcut
      have H5 := Lib.hid S5
      by_cases hij : j < i
      · have hij' : (j : Int) < (i : Int) := by omega
        go_upto_region 8 with fail
        have hjn : j < n := by omega
        have han : a < n := by omega
        have HX := Lib.hid (show a ≤ j ∧ j < b by omega)
        obtain ⟨x, y, z, cx, fx, cy, fy, cz, fz, l3, hp3, S6⟩ := SS.swap S5 (i := j) (j := a) hjn han
        have H6 := Lib.hid (And.intro hp3 S6)
        obtain ⟨a0, a1⟩ := nb han
        obtain ⟨j0', j1'⟩ := nb hjn
        clear hp3 S6 S5 hij hij' hjn han hi3 hi4 hj3 hj4 q1 q2 q5 q6 q7
        go_region
        have H7 := Lib.hid (show SS w _ g n c l3 from H6.out.2.drew)
        clear cx fx cy fy cz fz
        generalize World.drew _ = w7 at *
        go_wp2_with fail
        go_ret2
        exact ⟨j, true, l3, HX.out.1, HX.out.2, rfl, H6.out.1.trans HP1.out, H7.out⟩
      · have hij' : ¬ (j : Int) < (i : Int) := by omega
        go_upto_region 10 with fail
        have hin : i < n := by omega
        have hjn : j < n := by omega
        obtain ⟨jm, hjm⟩ : ∃ jm, j = 1 + jm := ⟨j - 1, by omega⟩
        obtain ⟨ip, hip⟩ : ∃ ip, ip = i + 1 := ⟨_, rfl⟩
        obtain ⟨x, y, z, cx, fx, cy, fy, cz, fz, l3, hp3, S6⟩ := SS.swap S5 (i := i) (j := j) hin hjn
        have H6 := Lib.hid (And.intro hp3 S6)
        have HF := Lib.hid (show (i : Int) + 1 = (ip : Int) ∧ (j : Int) - 1 = (jm : Int) ∧ a < ip ∧ ip ≤ b ∧ a ≤ jm ∧ jm < b by omega)
        have i2 : (i : Int) ≤ 1000000 := by omega
        have j2 : (j : Int) ≤ 1000000 := by omega
        have j3 : (1 : Int) ≤ (j : Int) := by omega
        obtain ⟨i0', i1'⟩ := nb hin
        obtain ⟨j0', j1'⟩ := nb hjn
        clear hp3 S6 S5 hij hij' hin hjn hjm hip hi3 hi4 hj3 hj4 q1 q2 q5 q6 q7
        go_region
        have H7 := Lib.hid (show SS w _ g n c l3 from H6.out.2.drew)
        have HP2 := Lib.hid (H6.out.1.trans HP1.out)
        clear cx fx cy fy cz fz H6 H5 i0' i1' j0' j1'
        generalize World.drew _ = w7 at *
        have e1 := HF.out.1
        have e2 := HF.out.2.1
        go_wp2_with fail
        clear e1 e2 i2 j2 j3
        go_loopg [10, 11] (b + 3) (fun m v10 v11 wx => ∃ (i j : Nat) (l' : List Int), v10 = .int .i64 i ∧ v11 = .int .i64 j ∧ j + 2 - i < m ∧ a < i ∧ i ≤ b ∧ a ≤ j ∧ j < b ∧ l'.Perm l ∧ SS w wx g n c l')
        case atStart => exact ⟨ip, jm, l3, rfl, rfl, by have := HF.out; omega, HF.out.2.2.1, HF.out.2.2.2.1, HF.out.2.2.2.2.1, HF.out.2.2.2.2.2, HP2.out, H7.out⟩
        case round =>
          clear H7 HF HP2
          obtain ⟨i1, j1, l2, rfl, rfl, hm, hi1, hi2, hj1, hj2, hp2, S3⟩ := hrel
          have H3 := Lib.hid S3
          have HP := Lib.hid hp2
          have HM := Lib.hid hm
          clear S3 hp2 hm
          go_upto_block 6 with fail
          go_cut [10] (fun v10 wx => ∃ i : Nat, v10 = .int .i64 i ∧ i1 ≤ i ∧ i ≤ b ∧ SS w wx g n c l2)
          case first =>
            go_wp2_with fail
            go_loopg [10] (b + 1) (fun m v10 wx => ∃ i : Nat, v10 = .int .i64 i ∧ b - i < m ∧ i1 ≤ i ∧ i ≤ b ∧ SS w wx g n c l2)
            case atStart => exact ⟨i1, rfl, by omega, by omega, by omega, H3.out⟩
            case round =>
              obtain ⟨i, rfl, him, hi0, hib, S1⟩ := hrel
              have H1 := Lib.hid S1
              have HIM := Lib.hid him
              have HX := Lib.hid (And.intro hi0 hib)
              clear S1 him
              by_cases hij : i ≤ j1
              · have hij' : (i : Int) ≤ (j1 : Int) := by omega
                have hin : i < n := by omega
                have HJ := Lib.hid (show b - (i + 1) < b - i ∧ i1 ≤ i + 1 ∧ i + 1 ≤ b ∧ (i : Int) + 1 = ((i + 1 : Nat) : Int) by omega)
                have i2 : (i : Int) ≤ 1000000 := by omega
                have han : a < n := by omega
                obtain ⟨x, _, cx, _⟩ := SS.cell H1.out (i := i) hin
                obtain ⟨y, _, cy, _⟩ := SS.cell H1.out (i := a) han
                obtain ⟨bb, hbb⟩ : ∃ bb, decide (x < y) = bb := ⟨_, rfl⟩
                have HQ := Lib.hid (fun W => hbb ▸ less_c x y W)
                obtain ⟨i0', i1'⟩ := nb hin
                obtain ⟨a0', a1'⟩ := nb han
                clear hbb hin han hi0 hib hij
                cases bb with
                | true =>
                  go_upto_region 13 with fail
                  go_quiet (first | (go_at_call 47; refine Calls.quiet_of (HQ.out _)))
                  have S2 := Lib.hid (SS.trans H1.out ((St.start H1.out.sat (fun b hb k hk => by rw [List.mem_singleton.1 hb] at hk; cases hk; rfl)).drewN nq))
                  clear cx cy HQ
                  go_wp2_with fail
                  go_roundg (b - i)
                  case measure => exact HIM.out
                  case rel => exact ⟨i + 1, congrArg (Value.int .i64) HJ.out.2.2.2, HJ.out.1, HJ.out.2.1, HJ.out.2.2.1, S2.out⟩
                | false =>
                  go_upto_region 13 with fail
                  go_quiet (first | (go_at_call 47; refine Calls.quiet_of (HQ.out _)))
                  have S2 := Lib.hid (SS.trans H1.out ((St.start H1.out.sat (fun b hb k hk => by rw [List.mem_singleton.1 hb] at hk; cases hk; rfl)).drewN nq))
                  clear cx cy HQ
                  go_wp2_with fail
                  go_meet
                  exact ⟨i, rfl, HX.out.1, HX.out.2, S2.out⟩
              · have hij' : ¬ (i : Int) ≤ (j1 : Int) := by omega
                go_upto_region 13 with fail
                go_quiet (fail)
                have S2 := Lib.hid (SS.trans H1.out ((St.start H1.out.sat (fun b hb k hk => by rw [List.mem_singleton.1 hb] at hk; cases hk; rfl)).drewN nq))
                go_wp2_with fail
                go_meet
                exact ⟨i, rfl, HX.out.1, HX.out.2, S2.out⟩
          case rest =>
            obtain ⟨i, rfl, hi3, hi4, S4⟩ := hcut
            have H4 := Lib.hid S4
            clear S4 H3
            go_upto_block 8 with fail
            go_cut [11] (fun v11 wx => ∃ j : Nat, v11 = .int .i64 j ∧ a ≤ j ∧ j ≤ j1 ∧ SS w wx g n c l2)
            case first =>
              go_wp2_with fail
              go_loopg [11] (j1 + 1) (fun m v11 wx => ∃ j : Nat, v11 = .int .i64 j ∧ j < m ∧ a ≤ j ∧ j ≤ j1 ∧ SS w wx g n c l2)
              case atStart => exact ⟨j1, rfl, by omega, by omega, by omega, H4.out⟩
              case round =>
                obtain ⟨j, rfl, hjm, hj0, hjb, S1⟩ := hrel
                have H1 := Lib.hid S1
                have HIM := Lib.hid hjm
                have HX := Lib.hid (And.intro hj0 hjb)
                clear S1 hjm
                by_cases hij : i ≤ j
                · have hij' : (i : Int) ≤ (j : Int) := by omega
                  have hjn : j < n := by omega
                  obtain ⟨jm, hjm⟩ : ∃ jm, j = 1 + jm := ⟨j - 1, by omega⟩
                  have HJ := Lib.hid (show jm < j ∧ a ≤ jm ∧ jm ≤ j1 ∧ (j : Int) - 1 = (jm : Int) by omega)
                  have j2 : (j : Int) ≤ 1000000 := by omega
                  have j3 : (1 : Int) ≤ (j : Int) := by omega
                  have han : a < n := by omega
                  obtain ⟨x, _, cx, _⟩ := SS.cell H1.out (i := j) hjn
                  obtain ⟨y, _, cy, _⟩ := SS.cell H1.out (i := a) han
                  obtain ⟨bb, hbb⟩ : ∃ bb, decide (x < y) = bb := ⟨_, rfl⟩
                  have HQ := Lib.hid (fun W => hbb ▸ less_c x y W)
                  obtain ⟨j0', j1'⟩ := nb hjn
                  obtain ⟨a0', a1'⟩ := nb han
                  clear hbb hjn han hj0 hjb hij hjm
                  cases bb with
                  | false =>
                    go_upto_region 15 with fail
                    go_quiet (first | (go_at_call 47; refine Calls.quiet_of (HQ.out _)))
                    have S2 := Lib.hid (SS.trans H1.out ((St.start H1.out.sat (fun b hb k hk => by rw [List.mem_singleton.1 hb] at hk; cases hk; rfl)).drewN nq))
                    clear cx cy HQ
                    go_wp2_with fail
                    go_roundg j
                    case measure => exact HIM.out
                    case rel => exact ⟨jm, congrArg (Value.int .i64) HJ.out.2.2.2, HJ.out.1, HJ.out.2.1, HJ.out.2.2.1, S2.out⟩
                  | true =>
                    go_upto_region 15 with fail
                    go_quiet (first | (go_at_call 47; refine Calls.quiet_of (HQ.out _)))
                    have S2 := Lib.hid (SS.trans H1.out ((St.start H1.out.sat (fun b hb k hk => by rw [List.mem_singleton.1 hb] at hk; cases hk; rfl)).drewN nq))
                    clear cx cy HQ
                    go_wp2_with fail
                    go_meet
                    exact ⟨j, rfl, HX.out.1, HX.out.2, S2.out⟩
                · have hij' : ¬ (i : Int) ≤ (j : Int) := by omega
                  go_upto_region 15 with fail
                  go_quiet (fail)
                  have S2 := Lib.hid (SS.trans H1.out ((St.start H1.out.sat (fun b hb k hk => by rw [List.mem_singleton.1 hb] at hk; cases hk; rfl)).drewN nq))
                  go_wp2_with fail
                  go_meet
                  exact ⟨j, rfl, HX.out.1, HX.out.2, S2.out⟩
            case rest =>
              obtain ⟨j, rfl, hj3, hj4, S5⟩ := hcut
              have H5 := Lib.hid S5
              by_cases hij : j < i
              · have hij' : (j : Int) < (i : Int) := by omega
                go_upto_region 21 with fail
                have hjn : j < n := by omega
                have han : a < n := by omega
                have HX := Lib.hid (show a ≤ j ∧ j < b by omega)
                obtain ⟨x, y, z, cx, fx, cy, fy, cz, fz, l3, hp3, S6⟩ := SS.swap S5 (i := j) (j := a) hjn han
                have H6 := Lib.hid (And.intro hp3 S6)
                obtain ⟨a0, a1⟩ := nb han
                obtain ⟨j0', j1'⟩ := nb hjn
                clear hp3 S6 S5 hij hij' hjn han hi3 hi4 hj3 hj4 hi1 hi2 hj1 hj2
                go_region
                have H7 := Lib.hid (show SS w _ g n c l3 from H6.out.2.drew)
                clear cx fx cy fy cz fz
                generalize World.drew _ = w7 at *
                go_wp2_with fail
                go_ret2
                exact ⟨j, false, l3, HX.out.1, HX.out.2, rfl, H6.out.1.trans HP.out, H7.out⟩
              · have hij' : ¬ (j : Int) < (i : Int) := by omega
                go_upto_region 18 with fail
                have hin : i < n := by omega
                have hjn : j < n := by omega
                obtain ⟨jm, hjm⟩ : ∃ jm, j = 1 + jm := ⟨j - 1, by omega⟩
                obtain ⟨x, y, z, cx, fx, cy, fy, cz, fz, l3, hp3, S6⟩ := SS.swap S5 (i := i) (j := j) hin hjn
                have H6 := Lib.hid (And.intro hp3 S6)
                have HF := Lib.hid (show (i : Int) + 1 = ((i + 1 : Nat) : Int) ∧ (j : Int) - 1 = (jm : Int) ∧ jm + 2 - (i + 1) < j1 + 2 - i1 ∧ a < i + 1 ∧ i + 1 ≤ b ∧ a ≤ jm ∧ jm < b by omega)
                have i2 : (i : Int) ≤ 1000000 := by omega
                have j2 : (j : Int) ≤ 1000000 := by omega
                have j3 : (1 : Int) ≤ (j : Int) := by omega
                obtain ⟨i0, i1'⟩ := nb hin
                obtain ⟨j0', j1'⟩ := nb hjn
                clear hp3 S6 S5 hij hij' hin hjn hjm hi1 hi2 hj1 hj2 hi3 hi4 hj3 hj4 hab hb
                as_aux_lemma =>
                  go_region
                  go_wp2
                  go_roundg (j1 + 2 - i1)
                  case measure => exact HM.out
                  case rel => exact ⟨i + 1, jm, l3, congrArg (Value.int .i64) HF.out.1, congrArg (Value.int .i64) HF.out.2.1, HF.out.2.2.1, HF.out.2.2.2.1, HF.out.2.2.2.2.1, HF.out.2.2.2.2.2.1, HF.out.2.2.2.2.2.2, H6.out.1.trans HP.out, H6.out.2.drew⟩
end Go.Proofs.Ytjhmkmcongjngaa
