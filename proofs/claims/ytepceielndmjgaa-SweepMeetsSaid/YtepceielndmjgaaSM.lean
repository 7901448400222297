import Derived.Test.YtepceielndmjgaaSJ
namespace Go.Proofs.Ytepceielndmjgaa
open Go.RowKit Go.Tat Go.Proofs.YtepceielndmjgaaW.PrintWords PSweepTells
theorem any_take_succ {α : Type} {l : List α} {q : Nat} {y : α} (f : α → Bool) (h : l[q]? = some y) : (l.take (q + 1)).any f = ((l.take q).any f || f y) := by
  rw [List.take_add_one, h, List.any_append]
  simp
set_option maxRecDepth 100000 in
set_option maxHeartbeats 8000000 in
theorem meets_c (a b : List S41) (Aa Ab : Option Addr) (ca cb : Nat) (W : World) (hA : k41.C W Aa a.length a) (hB : k41.C W Ab b.length b) (hca : a.length ≤ ca) (hcb : b.length ≤ cb) :
    Calls Try.prog 5 #[.slice Aa a.length ca, .slice Ab b.length cb] W fun e w' => e = .returned (.bool true) ∧ Below W.heap.size W w' := by
  have HC := Lib.hid (And.intro hA (And.intro hB (And.intro hca hcb)))
  obtain ⟨u, hu, HU⟩ := unlike_c a Aa ca W hA hca
  have HU := Lib.hid HU
  have Hu := Lib.hid hu
  clear hA hB hca hcb hu
  go_enter Try.func5, Try.ntmps5
  go_wp2_with fail
  refine HU.out.mono ?_
  rintro e w1 ⟨rfl, d1⟩
  have HB1 := Lib.hid d1.below
  clear d1 HU
  cases u with
  | false =>
    clear Hu
    go_wp2_with fail
    refine (fixed_c w1).mono ?_
    rintro e w2 ⟨rfl, b2⟩
    have HB2 := Lib.hid (HB1.out.trans (b2.mono HB1.out.size))
    clear b2 HB1
    go_wp2_with fail
    go_ret
    exact ⟨rfl, HB2.out⟩
  | true =>
    have hUa := Hu.out rfl
    have hal := hUa.len
    have HUa := Lib.hid hUa
    obtain ⟨g, hg, HG⟩ := unlike_c b Ab cb w1 (Kd.C_below HC.out.2.1 HB1.out) HC.out.2.2.2
    have HG := Lib.hid HG
    have Hg := Lib.hid hg
    clear hg Hu hUa
    go_wp2_with fail
    refine HG.out.mono ?_
    rintro e w2 ⟨rfl, d2⟩
    have HB2 := Lib.hid (HB1.out.trans (d2.below.mono HB1.out.size))
    clear d2 HB1 HG
    cases g with
    | false =>
      clear Hg
      go_wp2_with fail
      refine (fixed_c w2).mono ?_
      rintro e w3 ⟨rfl, b3⟩
      have HB3 := Lib.hid (HB2.out.trans (b3.mono HB2.out.size))
      clear b3 HB2
      go_wp2_with fail
      go_ret
      exact ⟨rfl, HB3.out⟩
    | true =>
      have hUb := Hg.out rfl
      have hbl := hUb.len
      have HUb := Lib.hid hUb
      clear Hg hUb
      have hMT := meets a b HUb.out.nd
      have hpl : (pushL b (a.map seenS)).length ≤ 60 := Nat.le_trans (List.length_filter_le _ _) hbl
      have hla : (a.map seenS).length ≤ 60 := by rw [List.length_map]; exact hal
      have hlb : (b.map seenS).length ≤ 60 := by rw [List.length_map]; exact hbl
      obtain ⟨sa, hsa⟩ : ∃ sa, a.map seenS = sa := ⟨_, rfl⟩
      obtain ⟨sb, hsb⟩ : ∃ sb, b.map seenS = sb := ⟨_, rfl⟩
      rw [hsa, hsb] at hMT
      rw [hsa] at hpl hla
      rw [hsb] at hlb
      have HSA := Lib.hid hsa
      have HSB := Lib.hid hsb
      obtain ⟨pl, hpl0⟩ : ∃ pl, rpullL a sb = pl := ⟨_, rfl⟩
      obtain ⟨ps, hps0⟩ : ∃ ps, pushL b sa = ps := ⟨_, rfl⟩
      rw [hpl0, hps0] at hMT
      rw [hps0] at hpl
      have HPL := Lib.hid hpl0
      have HPS := Lib.hid hps0
      have hle : (pl.length : Int) = (ps.length : Int) := by rw [hMT.1]
      have HMT := Lib.hid hMT
      clear hsa hsb hpl0 hps0 hMT
      go_wp2_with fail
      refine (sum_c b (by omega) Ab cb w2 (Kd.C_below HC.out.2.1 HB2.out) HC.out.2.2.2).mono ?_
      rw [HSB.out]
      rintro e w3 ⟨v3, rfl, S3⟩
      obtain ⟨A3, c3, rfl⟩ := Kd.R_slice (S3.get 0 rfl).1
      have HB3 := Lib.hid (HB2.out.trans (S3.base.mono HB2.out.size))
      have HB2x := HB3
      have H3 := Lib.hid S3
      clear S3 HB2
      go_wp2_with fail
      refine (pull_d a sb Aa A3 ca c3 w3 (Kd.C_below HC.out.1 HB3.out) (Kd.R_reads' (H3.out.get 0 rfl).1).2.2 (by omega) (by omega)).mono ?_
      rw [HPL.out]
      rintro e w4 ⟨v4, rfl, S4⟩
      obtain ⟨A4, c4, rfl⟩ := Kd.R_slice (S4.get 0 rfl).1
      have HB4 := Lib.hid (HB3.out.trans (S4.base.mono HB3.out.size))
      have H4 := Lib.hid S4
      clear S4 HB3 H3
      go_wp2_with fail
      refine (sum_c a (by omega) Aa ca w4 (Kd.C_below HC.out.1 HB4.out) HC.out.2.2.1).mono ?_
      rw [HSA.out]
      rintro e w5 ⟨v5, rfl, S5⟩
      obtain ⟨A5, c5, rfl⟩ := Kd.R_slice (S5.get 0 rfl).1
      have HB5 := Lib.hid (HB4.out.trans (S5.base.mono HB4.out.size))
      have H5 := Lib.hid (H4.out.adds S5)
      clear S5 HB4 H4
      go_wp2_with fail
      refine (push_c b sa Ab A5 cb c5 w5 (Kd.C_below HC.out.2.1 HB5.out) (Kd.R_reads' (H5.out.get 1 rfl).1).2.2 (by omega)).mono ?_
      rw [HPS.out]
      rintro e w6 ⟨v6, rfl, S6⟩
      obtain ⟨A6, c6, rfl⟩ := Kd.R_slice (S6.get 0 rfl).1
      have HB6 := Lib.hid (HB5.out.trans (S6.base.mono HB5.out.size))
      have H6 := Lib.hid ((H5.out.adds S6).drop 1)
      clear S6 HB5 H5
      go_wp2_with fail
      go_loopg [36] (ps.length + 1) (fun m v36 wx => ∃ j : Nat, v36 = .int .i64 j ∧ j ≤ ps.length ∧ ps.length - j < m ∧ St (fun _ => False) w3 wx [slc Kd.string 9 (.slice A4 pl.length c4) pl, slc k41 41 (.slice A6 ps.length c6) ps])
      case atStart => exact ⟨0, rfl, by omega, by omega, H6.out⟩
      case round =>
        clear H6
        obtain ⟨j, rfl, hj, hjm, S7⟩ := hrel
        by_cases hjl : j < ps.length
        · have hjl' : (j : Int) < (ps.length : Int) := by omega
          have hj0 : (0 : Int) ≤ (j : Int) := by omega
          obtain ⟨x, hx⟩ : ∃ x, ps[j]? = some x := ⟨_, List.getElem?_eq_getElem hjl⟩
          have HX := Lib.hid (HMT.out.2 x (List.mem_of_getElem? hx))
          obtain ⟨gL, cL', hv, _, hcL⟩ := slc_form (S7.get 1 rfl) (by omega)
          injection hv with hv1 hvl hv2
          subst hv1; subst hv2
          have E0 : ∀ c, c < 8 → wr.cell? ⟨gL, j * 8 + c, none⟩ = (e41 x)[c]? ∧ wr.frozen? ⟨gL, j * 8 + c, none⟩ = false := fun c hc => (S7.elem fl41 1 rfl (i := j) (c := c) hx hc)
          obtain ⟨xk, ⟨xp, xl, xn⟩, xd, xf, xe, xb⟩ := x
          have u0 : wr.cell? ⟨gL, j * 8, none⟩ = some (.string xk) := (E0 0 (by decide)).1
          have u1 : wr.cell? ⟨gL, j * 8 + 1, none⟩ = some (.int .u64 xp) := (E0 1 (by decide)).1
          have u2 : wr.cell? ⟨gL, j * 8 + 2, none⟩ = some (.int .u32 xl) := (E0 2 (by decide)).1
          have u3 : wr.cell? ⟨gL, j * 8 + 3, none⟩ = some (.int .u8 xn) := (E0 3 (by decide)).1
          have u4 : wr.cell? ⟨gL, j * 8 + 4, none⟩ = some (.int .u8 xd) := (E0 4 (by decide)).1
          have u5 : wr.cell? ⟨gL, j * 8 + 5, none⟩ = some (.int .u32 xf) := (E0 5 (by decide)).1
          have u6 : wr.cell? ⟨gL, j * 8 + 6, none⟩ = some (.int .u64 xe) := (E0 6 (by decide)).1
          have u7 : wr.cell? ⟨gL, j * 8 + 7, none⟩ = some (.string xb) := (E0 7 (by decide)).1
          have H7 := Lib.hid S7
          have HI := Lib.hid (And.intro hj hjm)
          clear S7 E0 hx hvl hcL hj hjm
          go_upto_region 10 with fail
          have S8 := H7.out.new' #[.string xk, .int .u64 xp, .int .u32 xl, .int .u8 xn, .int .u8 xd, .int .u32 xf, .int .u64 xe, .string xb] 41 wr.heap.size rfl
          obtain ⟨z, hz⟩ : ∃ z, wr.heap.size = z := ⟨_, rfl⟩
          rw [hz] at S8 ⊢
          clear hz
          generalize World.alloc wr _ = w8 at *
          have H8 := Lib.hid S8
          clear S8 H7 u0 u1 u2 u3 u4 u5 u6 u7
          go_wp2_with fail
          go_loopg [9, 42] (pl.length + 1) (fun m v9 v42 wx => ∃ q : Nat, v42 = .int .i64 q ∧ v9 = .bool ((pl.take q).any fun y => y.toList == xk.toList) ∧ q ≤ pl.length ∧ pl.length - q < m ∧ St (fun _ => False) w3 wx [slc Kd.string 9 (.slice A4 pl.length c4) pl, slc k41 41 (.slice (some ⟨gL, 0, none⟩) ps.length c6) ps, blk z #[.string xk, .int .u64 xp, .int .u32 xl, .int .u8 xn, .int .u8 xd, .int .u32 xf, .int .u64 xe, .string xb] 41])
          case atStart => exact ⟨0, rfl, by simp, by omega, by omega, H8.out⟩
          case round =>
            clear H8
            obtain ⟨q, rfl, rfl, hq, hqm, S9⟩ := hrel
            by_cases hql : q < pl.length
            · have hql' : (q : Int) < (pl.length : Int) := by omega
              have hq0 : (0 : Int) ≤ (q : Int) := by omega
              obtain ⟨y, hy⟩ : ∃ y, pl[q]? = some y := ⟨_, List.getElem?_eq_getElem hql⟩
              have hms := Lib.hid (any_take_succ (fun y => y.toList == xk.toList) hy)
              obtain ⟨gP, cP', hv, _, hcP⟩ := slc_form (S9.get 0 rfl) (by omega)
              injection hv with hv1 hvl hv2
              subst hv1; subst hv2
              have c0 : wr.cell? ⟨gP, q, none⟩ = some (.string y) := by
                have := (S9.elem flStr 0 rfl (i := q) (c := 0) hy (by decide)).1
                rw [show q * Kd.string.sz + 0 = q from by show q * 1 + 0 = q; omega] at this
                exact this
              have d0 : wr.cell? ⟨z, 0, none⟩ = some (.string xk) := S9.cell 2 rfl 0
              have H9 := Lib.hid S9
              have HQ := Lib.hid (And.intro hq hqm)
              clear S9 hy hvl hcP hq hqm
              cases hin : (pl.take q).any fun y => y.toList == xk.toList with
              | true =>
                have HIN := Lib.hid hin
                clear hin
                go_wp2_with fail
                go_roundg (pl.length - q)
                case measure => have := HQ.out; omega
                case rel =>
                  have := HQ.out
                  exact ⟨q + 1, by go_num, by rw [hms.out, HIN.out]; rfl, by omega, by omega, H9.out⟩
              | false =>
                have HIN := Lib.hid hin
                clear hin
                go_wp2_with fail
                go_roundg (pl.length - q)
                case measure => have := HQ.out; omega
                case rel =>
                  have := HQ.out
                  exact ⟨q + 1, by go_num, by rw [hms.out, HIN.out]; rfl, by omega, by omega, H9.out⟩
            · have hqe : q = pl.length := by omega
              subst hqe
              have hql' : ¬ ((pl.length : Int) < (pl.length : Int)) := by omega
              have hall : ((pl.take pl.length).any fun y => y.toList == xk.toList) = true := by
                rw [List.take_length, List.any_eq_true]
                exact ⟨xk, HX.out, by simp⟩
              have H9 := Lib.hid S9
              clear S9
              rw [hall]
              clear hall
              go_wp2_with fail
              go_roundg (ps.length - j)
              case measure => have := HI.out; omega
              case rel =>
                have := HI.out
                exact ⟨j + 1, by go_num, by omega, by omega, H9.out.drop 2⟩
        · have hje : j = ps.length := by omega
          subst hje
          have hjl' : ¬ ((ps.length : Int) < (ps.length : Int)) := by omega
          have H7 := Lib.hid S7
          clear S7
          go_wp2_with fail
          have HB7 := Lib.hid (HB2x.out.trans (H7.out.base.mono HB2x.out.size))
          clear H7
          refine (fixed_c wr).mono ?_
          rintro e w9 ⟨rfl, b9⟩
          have HB9 := Lib.hid (HB7.out.trans (b9.mono HB7.out.size))
          clear b9 HB7
          go_wp2_with fail
          go_ret
          exact ⟨rfl, HB9.out⟩
end Go.Proofs.Ytepceielndmjgaa
