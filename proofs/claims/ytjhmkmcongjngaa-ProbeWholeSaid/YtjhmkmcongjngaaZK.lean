/- The sort of []uint8. -/
import Derived.Test.YtjhmkmcongjngaaZG
import Derived.Test.YtjhmkmcongjngaaZI
import Derived.Test.YtjhmkmcongjngaaZJ
import Derived.Deep.CutRange
set_option linter.unusedVariables false
set_option linter.unusedSimpArgs false
namespace Go.Proofs.Ytjhmkmcongjngaa
open Go.RowKit Go.Tat Go.Proofs.YtjhmkmcongjngaaW.PrintWords
theorem SS.self {w0 w : World} {g n c : Nat} {l : List Int} (h : SS w0 w g n c l) : SS w w g n c l := St.start h.sat (fun b hb k hk => by rw [List.mem_singleton.1 hb] at hk; cases hk; rfl)
def PdqAt (g n c d : Nat) : Prop := ∀ (a b lim : Nat), b - a < d → a ≤ b → b ≤ n → lim ≤ 1000 → ∀ (l : List Int) (w : World), SS w w g n c l → Calls Try.prog 37 #[.slice (some ⟨g, 0, none⟩) n c, .int .i64 a, .int .i64 b, .int .i64 lim] w (SPost (.tuple #[]) w g n c l)
set_option maxRecDepth 100000 in
set_option maxHeartbeats 16000000 in
theorem pdq_step (g n c d a0 b0 lim0 : Nat) (hn : n ≤ 1000000) (hIH : PdqAt g n c d) (hd : b0 - a0 < d + 1) (hab0 : a0 ≤ b0) (hb0 : b0 ≤ n) (hlim0 : lim0 ≤ 1000) (l : List Int) (w : World) (h : SS w w g n c l) : Calls Try.prog 37 #[.slice (some ⟨g, 0, none⟩) n c, .int .i64 a0, .int .i64 b0, .int .i64 lim0] w (SPost (.tuple #[]) w g n c l) := by
    have HIH := Lib.hid hIH
    have H0 := Lib.hid h
    clear h hIH
    go_enter Try.func37, Try.ntmps37
    go_wp2_with fail
    go_loopg [1, 2, 3, 8, 9] (b0 - a0 + 1) (fun m v1 v2 v3 v8 v9 wx => ∃ (a b lim : Nat) (p q : Bool) (l' : List Int), v1 = .int .i64 a ∧ v2 = .int .i64 b ∧ v3 = .int .i64 lim ∧ v8 = .bool p ∧ v9 = .bool q ∧ b - a < m ∧ a ≤ b ∧ b ≤ n ∧ b - a ≤ b0 - a0 ∧ lim ≤ 1000 ∧ l'.Perm l ∧ SS w wx g n c l')
    case atStart => exact ⟨a0, b0, lim0, true, true, l, rfl, rfl, rfl, rfl, rfl, by omega, hab0, hb0, by omega, hlim0, List.Perm.refl _, H0.out⟩
    case round =>
      clear H0
      obtain ⟨a, b, lim, p, q, l1, rfl, rfl, rfl, rfl, rfl, hm, hab, hb, hlen, hlim, hp, S1⟩ := hrel
      have H1 := Lib.hid (And.intro hp S1)
      obtain ⟨L, hL⟩ : ∃ L, b = a + L := ⟨b - a, by omega⟩
      have HM := Lib.hid (show b - a < gk ∧ a ≤ b ∧ b ≤ n ∧ b - a < d + 1 ∧ b = a + L by omega)
      have HM2 := Lib.hid (show b - a ≤ b0 - a0 from hlen)
      have HLM := Lib.hid hlim
      have e0 : (b : Int) - (a : Int) = (L : Int) := by omega
      have b1 : (b : Int) ≤ 1000000 := by omega
      have b2 : (a : Int) ≤ 1000000 := by omega
      have b3 : (L : Int) ≤ 1000000 := by omega
      have b4 : (lim : Int) ≤ 1000 := by omega
      clear hp S1 hm hab hb hlen hlim hL hab0 hb0 hd hlim0
      by_cases h12 : L ≤ 12
      · have h12' : (L : Int) ≤ 12 := by omega
        have HI := Lib.hid (insertion_c g n c a b HM.out.2.1 HM.out.2.2.1 hn l1 wr H1.out.2.self)
        go_wp2_with fail
        refine HI.out.mono ?_
        rintro e w2 ⟨rfl, l2, hp2, S2⟩
        have H2 := Lib.hid (And.intro (hp2.trans H1.out.1) (SS.trans H1.out.2 S2))
        clear hp2 S2 HI
        go_wp2_with fail
        first | go_end0 | ((try simp only [Exit.inBlock, Exit.then]); refine bodyPost_ret (results_none rfl _ _ _) rfl ?_)
        exact ⟨rfl, _, H2.out⟩
      · have h12' : ¬ (L : Int) ≤ 12 := by omega
        by_cases hl0 : lim = 0
        · subst hl0
          have HI := Lib.hid (heap_c g n c a b (by have := HM.out; omega) HM.out.2.2.1 hn l1 wr H1.out.2.self)
          go_wp2_with fail
          refine HI.out.mono ?_
          rintro e w2 ⟨rfl, l2, hp2, S2⟩
          have H2 := Lib.hid (And.intro (hp2.trans H1.out.1) (SS.trans H1.out.2 S2))
          clear hp2 S2 HI
          go_wp2_with fail
          first | go_end0 | ((try simp only [Exit.inBlock, Exit.then]); refine bodyPost_ret (results_none rfl _ _ _) rfl ?_)
          exact ⟨rfl, _, H2.out⟩
        · have hl0' : ((lim : Int) == 0) = false := by have : ¬ (lim : Int) = 0 := by omega
                                                       simpa using this
          have HL := Lib.hid (show a + 12 < b ∧ 0 < lim by have := HM.out; omega)
          go_upto_if 35 with fail
          clear e0 h12' hl0' h12 hl0
          go_cut [3] from 36 to 41 (fun v3 wx => ∃ (lim : Nat) (l' : List Int), v3 = .int .i64 lim ∧ lim ≤ 1000 ∧ l'.Perm l ∧ SS w wx g n c l')
          case first =>
            cases p with
            | true =>
              go_wp2_with fail
              go_meet
              exact ⟨lim, l1, rfl, HLM.out, H1.out⟩
            | false =>
              have HI := Lib.hid (break_c g n c a b HL.out.1 HM.out.2.2.1 hn l1 wr H1.out.2.self)
              obtain ⟨lm, hlm⟩ : ∃ lm, lim = 1 + lm := ⟨lim - 1, by have := HL.out; omega⟩
              have hlm2 : lm ≤ 1000 := by have := HLM.out; omega
              have el : (lim : Int) - 1 = (lm : Int) := by omega
              clear hlm
              go_wp2_with fail
              refine HI.out.mono ?_
              rintro e w2 ⟨rfl, l2, hp2, S2⟩
              have H2 := Lib.hid (And.intro (hp2.trans H1.out.1) (SS.trans H1.out.2 S2))
              clear hp2 S2 HI
              go_wp2_with fail
              go_meet
              exact ⟨lm, l2, rfl, hlm2, H2.out⟩
          case rest =>
            clear H1 b4 HLM
            obtain ⟨lim, l2, rfl, hlim, hp2, S2⟩ := hcut
            have HLM := Lib.hid hlim
            have b4 : (lim : Int) ≤ 1000 := by omega
            have HP := Lib.hid hp2
            have HPV := Lib.hid (pivot_c g n c a b HL.out.1 HM.out.2.2.1 hn l2 wc S2.self)
            have H2 := Lib.hid S2
            clear hp2 S2 hlim
            go_wp2_with fail
            refine HPV.out.mono ?_
            rintro e w3 ⟨pv, hh, hpa, hpb, hhv, rfl, S3⟩
            have H3 := Lib.hid (And.intro HP.out (SS.trans H2.out S3))
            have HV := Lib.hid (And.intro hpa (And.intro hpb hhv))
            clear S3 HPV H2 hpa hpb hhv HP
            go_upto_if 50 with fail
            go_cut [11, 12] from 51 to 60 (fun v11 v12 wx => ∃ (pv : Nat) (hh : Int) (l' : List Int), v11 = .int .i64 pv ∧ v12 = .int .i64 hh ∧ a ≤ pv ∧ pv < b ∧ l'.Perm l ∧ SS w wx g n c l')
            case first =>
              by_cases hd2 : hh = 2
              · subst hd2
                have HI := Lib.hid (reverse_c g n c a b (by have := HL.out; omega) HM.out.2.2.1 hn l2 w3 H3.out.2.self)
                obtain ⟨b1', hb1'⟩ : ∃ x, b = 1 + x := ⟨b - 1, by have := HL.out; omega⟩
                obtain ⟨o, ho⟩ : ∃ o, pv = a + o := ⟨pv - a, by have := HV.out; omega⟩
                obtain ⟨r, hr⟩ : ∃ r, b1' = o + r := ⟨b1' - o, by have := HV.out; omega⟩
                have HR := Lib.hid (show a ≤ r ∧ r < b by have := HV.out; omega)
                have e1 : (b : Int) - 1 = (b1' : Int) := by omega
                have e2 : (pv : Int) - (a : Int) = (o : Int) := by omega
                have e3 : (b1' : Int) - (o : Int) = (r : Int) := by omega
                have b5 : (pv : Int) ≤ 1000000 := by have := HV.out; omega
                have b6 : (b1' : Int) ≤ 1000000 := by omega
                have b7 : (o : Int) ≤ 1000000 := by omega
                clear hb1' ho hr
                go_wp2_with fail
                refine HI.out.mono ?_
                rintro e w4 ⟨rfl, l4, hp4, S4⟩
                have H4 := Lib.hid (And.intro (hp4.trans H3.out.1) (SS.trans H3.out.2 S4))
                clear hp4 S4 HI
                go_wp2_with fail
                go_meet
                exact ⟨r, 1, l4, rfl, rfl, HR.out.1, HR.out.2, H4.out⟩
              · have hd2' : (hh == 2) = false := by simpa using hd2
                clear hd2
                go_wp2_with fail
                go_meet
                exact ⟨pv, hh, l2, rfl, rfl, HV.out.1, HV.out.2.1, H3.out⟩
            case rest =>
              clear H3 HV
              obtain ⟨pv, hh, l3, rfl, rfl, hpa, hpb, hp3, S3⟩ := hcut
              have H3 := Lib.hid (And.intro hp3 S3)
              have HV := Lib.hid (And.intro hpa hpb)
              clear hp3 S3 hpa hpb
              go_upto_region 15 with fail
              go_cut [68] from 61 to 67 (fun v68 wx => (∃ t : Bool, v68 = .bool t) ∧ l3.Perm l ∧ SS w wx g n c l3)
              case first =>
                by_cases hh1 : hh = 1
                · subst hh1
                  cases p <;> cases q <;>
                  · go_wp2_with fail
                    go_meet
                    exact ⟨⟨_, rfl⟩, H3.out⟩
                · have hh1' : (hh == 1) = false := by simpa using hh1
                  clear hh1
                  cases p <;> cases q <;>
                  · go_wp2_with fail
                    go_meet
                    exact ⟨⟨_, rfl⟩, H3.out⟩
              case rest =>
                clear H3
                obtain ⟨⟨t, rfl⟩, hp3, S3⟩ := hcut
                have HI := Lib.hid (partial_c g n c a b (by have := HL.out; omega) HM.out.2.2.1 hn l3 _ S3.self)
                have H3 := Lib.hid (And.intro hp3 S3)
                clear hp3 S3
                go_upto_if 68 with fail
                go_cut [] from 69 to 72 (fun wx => ∃ l', l'.Perm l ∧ SS w wx g n c l')
                case first =>
                  cases t with
                  | false =>
                    go_wp2_with fail
                    go_meet
                    exact ⟨l3, H3.out⟩
                  | true =>
                    go_wp2_with fail
                    refine HI.out.mono ?_
                    rintro e w4 ⟨t2, l4, rfl, hp4, S4⟩
                    have H4 := Lib.hid (And.intro (hp4.trans H3.out.1) (SS.trans H3.out.2 S4))
                    clear hp4 S4 HI
                    cases t2 with
                    | true =>
                      go_wp2_with fail
                      first | go_end0 | ((try simp only [Exit.inBlock, Exit.then]); refine bodyPost_ret (results_none rfl _ _ _) rfl ?_)
                      exact ⟨rfl, _, H4.out⟩
                    | false =>
                      go_wp2_with fail
                      go_meet
                      exact ⟨l4, H4.out⟩
                case rest =>
                  clear H3 HI
                  obtain ⟨l4, hp4, S4⟩ := hcut
                  have H4 := Lib.hid (And.intro hp4 S4)
                  clear hp4 S4
                  go_upto_region 17 with fail
                  go_cut [87] from 73 to 86 (fun v87 wx => (∃ t : Bool, v87 = .bool t) ∧ l4.Perm l ∧ SS w wx g n c l4)
                  case first =>
                    by_cases ha0 : 0 < a
                    · have ha0' : (0 : Int) < (a : Int) := by omega
                      obtain ⟨am, ham⟩ : ∃ am, a = am + 1 := ⟨a - 1, by omega⟩
                      have hamn : am < n := by have := HM.out; omega
                      have hpn : pv < n := by have := HM.out; have := HV.out; omega
                      have ham9 : am < 4611686018427387904 := by omega
                      obtain ⟨x, _, cx, _⟩ := SS.cell H4.out.2 (i := am) hamn
                      obtain ⟨y, _, cy, _⟩ := SS.cell H4.out.2 (i := pv) hpn
                      obtain ⟨bb, hbb⟩ : ∃ bb, decide (x < y) = bb := ⟨_, rfl⟩
                      have HQ := Lib.hid (fun W => hbb ▸ less_c x y W)
                      obtain ⟨m0', m1'⟩ := nb hamn
                      obtain ⟨p0', p1'⟩ := nb hpn
                      have e1 := ipred ham ham9
                      clear hbb hamn hpn ham9 ham
                      go_quiet (first | (go_at_call 47; refine Calls.quiet_of (HQ.out _)))
                      have S5 := Lib.hid (SS.drawn H4.out.2 nq)
                      clear cx cy HQ e1
                      go_wp2_with fail
                      go_meet
                      exact ⟨⟨_, rfl⟩, H4.out.1, S5.out⟩
                    · have ha0' : ¬ (0 : Int) < (a : Int) := by omega
                      go_quiet (fail)
                      have S5 := Lib.hid (SS.drawn H4.out.2 nq)
                      go_wp2_with fail
                      go_meet
                      exact ⟨⟨_, rfl⟩, H4.out.1, S5.out⟩
                  case rest =>
                    clear H4
                    obtain ⟨⟨t, rfl⟩, hp4, S4⟩ := hcut
                    have HE := Lib.hid (equal_c g n c a b pv (by have := HL.out; omega) HM.out.2.2.1 hn HV.out l4 _ S4.self)
                    have HT := Lib.hid (part_c g n c a b pv (by have := HL.out; omega) HM.out.2.2.1 hn HV.out l4 _ S4.self)
                    have H4 := Lib.hid (And.intro hp4 S4)
                    clear hp4 S4
                    cases t with
                    | true =>
                      go_wp2_with fail
                      refine HE.out.mono ?_
                      rintro e w5 ⟨mid, l5, hm1, hm2, rfl, hp5, S5⟩
                      have H5 := Lib.hid (And.intro (hp5.trans H4.out.1) (SS.trans H4.out.2 S5))
                      have HD := Lib.hid (show b - mid < b - a ∧ mid ≤ b ∧ b - mid ≤ b0 - a0 by have := HM.out; have := HM2.out; omega)
                      clear hp5 S5 HE HT hm1 hm2
                      go_wp2_with fail
                      go_roundg (b - a)
                      case measure => exact HM.out.1
                      case rel => exact ⟨mid, b, lim, p, q, l5, rfl, rfl, rfl, rfl, rfl, HD.out.1, HD.out.2.1, HM.out.2.2.1, HD.out.2.2, HLM.out, H5.out⟩
                    | false =>
                      go_wp2_with fail
                      refine HT.out.mono ?_
                      rintro e w5 ⟨mid, t, l5, hm1, hm2, rfl, hp5, S5⟩
                      have H5 := Lib.hid (And.intro (hp5.trans H4.out.1) (SS.trans H4.out.2 S5))
                      obtain ⟨m1, hmm⟩ : ∃ m1, m1 = mid + 1 := ⟨_, rfl⟩
                      have HR1 := Lib.hid (HIH.out a mid lim (by have := HM.out; omega) hm1 (by have := HM.out; omega) HLM.out l5 w5 H5.out.2.self)
                      have HR2 := Lib.hid (HIH.out m1 b lim (by have := HM.out; omega) (by omega) HM.out.2.2.1 HLM.out l5 w5 H5.out.2.self)
                      have HD := Lib.hid (show b - m1 < b - a ∧ m1 ≤ b ∧ b - m1 ≤ b0 - a0 ∧ mid - a < b - a ∧ a ≤ mid ∧ mid ≤ n ∧ mid - a ≤ b0 - a0 by have := HM.out; have := HM2.out; omega)
                      obtain ⟨lf, hlf⟩ : ∃ lf, mid = a + lf := ⟨mid - a, by omega⟩
                      obtain ⟨rg, hrg⟩ : ∃ rg, b = mid + rg := ⟨b - mid, by omega⟩
                      have e1 : (mid : Int) - (a : Int) = (lf : Int) := by omega
                      have e2 : (b : Int) - (mid : Int) = (rg : Int) := by omega
                      have e3 : (mid : Int) + 1 = (m1 : Int) := by omega
                      have b5 : (mid : Int) ≤ 1000000 := by omega
                      clear hp5 S5 HE HT hm1 hm2 hmm
                      by_cases hlr : lf < rg
                      · have hlr' : (lf : Int) < (rg : Int) := by omega
                        clear hlf hrg hlr
                        go_wp2_with fail
                        refine HR1.out.mono ?_
                        rintro e w6 ⟨rfl, l6, hp6, S6⟩
                        have H6 := Lib.hid (And.intro (hp6.trans H5.out.1) (SS.trans H5.out.2 S6))
                        clear hp6 S6 HR1 HR2
                        go_wp2_with fail
                        clear e1 e2 e3 hlr'
                        go_roundg (b - a)
                        case measure => exact HM.out.1
                        case rel => exact ⟨m1, b, lim, _, t, l6, rfl, rfl, rfl, rfl, rfl, HD.out.1, HD.out.2.1, HM.out.2.2.1, HD.out.2.2.1, HLM.out, H6.out⟩
                      · have hlr' : ¬ (lf : Int) < (rg : Int) := by omega
                        clear hlf hrg hlr
                        go_wp2_with fail
                        refine HR2.out.mono ?_
                        rintro e w6 ⟨rfl, l6, hp6, S6⟩
                        have H6 := Lib.hid (And.intro (hp6.trans H5.out.1) (SS.trans H5.out.2 S6))
                        clear hp6 S6 HR1 HR2
                        go_wp2_with fail
                        clear e1 e2 e3 hlr'
                        go_roundg (b - a)
                        case measure => exact HM.out.1
                        case rel => exact ⟨a, mid, lim, _, t, l6, rfl, rfl, rfl, rfl, rfl, HD.out.2.2.2.1, HD.out.2.2.2.2.1, HD.out.2.2.2.2.2.1, HD.out.2.2.2.2.2.2, HLM.out, H6.out⟩
theorem pdq_c (g n c : Nat) (hn : n ≤ 1000000) : ∀ d, PdqAt g n c d
  | 0 => fun _ _ _ h => absurd h (Nat.not_lt_zero _)
  | d + 1 => fun a b lim hd hab hb hlim l w h => pdq_step g n c d a b lim hn (pdq_c g n c hn d) hd hab hb hlim l w h
end Go.Proofs.Ytjhmkmcongjngaa
