import Derived.Test.YthkaahpaechljaaVJ
import Derived.Test.YthkaahpaechljaaOpen
namespace Go.Proofs.Ythkaahpaechljaa
open Go.RowKit Go.Tat Go.Proofs.YthkaahpaechljaaW.PrintWords PWheelPlays
theorem Try.cells3 : Try.prog.cellsOf 3 = (Kd.int .i64).sz := by kernel_rfl
def g3 (x : Int) : Prop := (Lit.int .i64 x).wf = true
theorem opens3 : Opens Try.prog 3 (Kd.int .i64) g3 := Opens.int Try.underlying3
theorem Try.cells28 : Try.prog.cellsOf 28 = (Kd.int .u64).sz := by kernel_rfl
def g28 (x : Int) : Prop := (Lit.int .u64 x).wf = true
theorem opens28 : Opens Try.prog 28 (Kd.int .u64) g28 := Opens.int Try.underlying28
theorem u64_wf {x : Int} (h : (Lit.int .u64 x).wf = true) : 0 ≤ x ∧ x < 18446744073709551616 := by
  have b : IntKind.u64.min ≤ x ∧ x ≤ IntKind.u64.max := by simpa [Lit.wf] using h
  have e0 : IntKind.u64.min = 0 := rfl
  have e1 : IntKind.u64.max = 18446744073709551615 := rfl
  omega
theorem addM_len (m : List S56) (x y : Int) : (addM m x y).length ≤ m.length + 1 := by
  unfold addM
  rw [List.length_append]
  have := List.length_filter_le (notId x) m
  simp
  omega
theorem sorted_eq {ys zs : List S56} (p : ys.Perm zs) (s1 : Sorted56 ys) (s2 : Sorted56 zs) : ys = zs := by
  refine List.Perm.eq_of_pairwise (le := fun x y : S56 => ¬ (y.f1 < x.f1 ∨ (y.f1 = x.f1 ∧ y.f0 < x.f0))) ?_ s1 s2 p
  intro a b _ _ n1 n2
  obtain ⟨ai, ad⟩ := a
  obtain ⟨bi, bd⟩ := b
  simp only at n1 n2
  have e1 : ai = bi := by omega
  have e2 : ad = bd := by omega
  rw [e1, e2]
theorem parts_sorted {m y1 y2 y3 : List S56} {lo hi : Int} (h : lo ≤ hi) (p1 : y1.Perm (m.filter (dueB hi))) (s1 : Sorted56 y1) (p2 : y2.Perm (m.filter (dueB lo))) (s2 : Sorted56 y2)
    (p3 : y3.Perm ((m.filter fun t => !dueB lo t).filter (dueB hi))) (s3 : Sorted56 y3) : y1 = y2 ++ y3 := by
  refine sorted_eq ?_ s1 ?_
  · refine p1.trans (List.Perm.symm ?_)
    refine (p2.append p3).trans ?_
    have e : (m.filter (dueB lo)) = (m.filter (dueB hi)).filter (dueB lo) := by
      rw [List.filter_filter]
      refine List.filter_congr fun t _ => ?_
      unfold dueB
      rw [Bool.eq_iff_iff]
      simp only [decide_eq_true_eq, Bool.and_eq_true]
      omega
    have e' : ((m.filter fun t => !dueB lo t).filter (dueB hi)) = (m.filter (dueB hi)).filter (fun t => !dueB lo t) := by
      rw [List.filter_filter, List.filter_filter]
      refine List.filter_congr fun t _ => ?_
      rw [Bool.and_comm]
    rw [e, e']
    exact List.filter_append_perm _ _
  · refine List.pairwise_append.2 ⟨s2, s3, fun a ha b hb => ?_⟩
    have h1 := (List.mem_filter.1 (p2.mem_iff.1 ha)).2
    have h2 := (List.mem_filter.1 (List.mem_filter.1 (p3.mem_iff.1 hb)).1).2
    unfold dueB at h1 h2
    simp only [decide_eq_true_eq] at h1
    simp only [Bool.not_eq_true', decide_eq_false_iff_not] at h2
    omega
set_option maxRecDepth 100000 in
set_option maxHeartbeats 8000000 in
theorem parts_c (ids ts : List Int) (s t : Int) (hs : (Lit.int .u64 s).wf = true) (ht : (Lit.int .u64 t).wf = true) (A0 A1 : Option Addr) (cap0 cap1 : Nat) (W : World) (hC0 : (Kd.int .i64).C W A0 ids.length ids) (hC1 : (Kd.int .u64).C W A1 ts.length ts) (hc0 : ids.length ≤ cap0) (hc1 : ts.length ≤ cap1) (hg1 : ∀ x ∈ ts, g28 x) :
    Calls Try.prog 4 #[.slice A0 ids.length cap0, .slice A1 ts.length cap1, .int .u64 s, .int .u64 t] W fun e w' => e = .returned (.bool true) ∧ Below W.heap.size W w' := by
  have HC := Lib.hid (And.intro hC0 (And.intro hC1 hg1))
  have h0 := Lib.hid (St.nil (fun _ => False) W)
  clear hC0 hC1 hc0 hc1 hg1 hs ht
  go_enter Try.func4, Try.ntmps4
  go_wp2_with fail
  refine (new_st h0.out).mono ?_
  rintro e w1 ⟨v, S1, rfl, H1⟩
  have H1 := Lib.hid H1
  go_wp2_with fail
  refine (new_st H1.out).mono ?_
  rintro e w2 ⟨g, S2, rfl, H2⟩
  have H2 := Lib.hid (show St (fun _ => False) W w2 [wO v S1 [], wO g S2 []] from H2)
  clear H1 h0
  by_cases hst : t < s
  · have hlh : t ≤ s := by omega
    go_upto_block 0 with fail
    go_cut [] (fun wx => ∃ (m : List S56) (S1 S2 : Nat → Prop), m.length ≤ 1000 ∧ St (fun _ => False) W wx [wO v S1 m, wO g S2 m])
    case first =>
      go_wp2_with fail
      go_loopg [24] (ids.length + 1) (fun n v24 wx => ∃ (j : Nat) (m : List S56) (S1 S2 : Nat → Prop), v24 = .int .i64 j ∧ j ≤ ids.length ∧ ids.length - j < n ∧ j ≤ 101 ∧ m.length ≤ j ∧ St (fun _ => False) W wx [wO v S1 m, wO g S2 m])
      case atStart => exact ⟨0, [], _, _, rfl, by omega, by omega, by omega, by simp, H2.out⟩
      case round =>
        clear H2
        obtain ⟨j, m, S1, S2, rfl, hj, hjm, hj1, hml, S3⟩ := hrel
        by_cases hjl : j < ids.length
        · have hjl' : (j : Int) < (ids.length : Int) := by omega
          have hj0 : (0 : Int) ≤ (j : Int) := by omega
          obtain ⟨x, hx⟩ : ∃ x, ids[j]? = some x := ⟨_, List.getElem?_eq_getElem hjl⟩
          obtain ⟨ad, b, o, cs, rfl, had, hb, hK, hcs⟩ := C_at HC.out.1 hx (by decide)
          have hK' : cs = [.int .i64 x] := (flInt .i64).K.1 hK
          subst hK'
          have c0 := (S3.base.cell (p := ⟨b, o, none⟩) hb).trans (hcs 0 _ rfl)
          have had' : ad.add j = ⟨b, o, none⟩ := by rw [show j * (Kd.int .i64).sz = j from Nat.mul_one j] at had; exact had
          by_cases hbr : (100 : Int) < (j : Int) ∨ (ts.length : Int) ≤ (j : Int)
          · have HE := Lib.hid (show ∃ (m : List S56) (S1 S2 : Nat → Prop), m.length ≤ 1000 ∧ St (fun _ => False) W wr [wO v S1 m, wO g S2 m] from ⟨m, S1, S2, by omega, S3⟩)
            clear S3 hK hcs had
            by_cases hb1 : (100 : Int) < (j : Int)
            · clear hbr
              go_wp2_with fail
              go_meet
              exact HE.out
            · have hb2 : (ts.length : Int) ≤ (j : Int) := hbr.resolve_left hb1
              clear hbr
              go_wp2_with fail
              go_meet
              exact HE.out
          · have hb1 : ¬ (100 : Int) < (j : Int) := fun h => hbr (.inl h)
            have hb2 : ¬ (ts.length : Int) ≤ (j : Int) := fun h => hbr (.inr h)
            have hb3 : (j : Int) < (ts.length : Int) := by omega
            clear hbr
            obtain ⟨y, hy⟩ : ∃ y, ts[j]? = some y := ⟨_, List.getElem?_eq_getElem (by omega)⟩
            have hyr := u64_wf (HC.out.2.2 y (List.mem_of_getElem? hy))
            obtain ⟨ad2, b2, o2, cs2, rfl, had2, hbb2, hK2, hcs2⟩ := C_at HC.out.2.1 hy (by decide)
            have hK2' : cs2 = [.int .u64 y] := (flInt .u64).K.1 hK2
            subst hK2'
            have t0 := (S3.base.cell (p := ⟨b2, o2, none⟩) hbb2).trans (hcs2 0 _ rfl)
            have had2' : ad2.add j = ⟨b2, o2, none⟩ := by rw [show j * (Kd.int .u64).sz = j from Nat.mul_one j] at had2; exact had2
            have H3 := Lib.hid S3
            have HT := Lib.hid (And.intro hbb2 (hcs2 0 _ rfl))
            have HI := Lib.hid (And.intro hj (And.intro hjm (And.intro hj1 (And.intro hml hyr))))
            clear S3 hK hcs had hK2 hcs2 had2 hj hjm hyr hml hx hy hj1
            go_wp2_with fail
            refine (add_st H3.out 0 rfl x y HI.out.2.2.2.2.1 HI.out.2.2.2.2.2 (by have := HI.out; omega)).mono ?_
            rintro e w4 ⟨rfl, S3, S4⟩
            have S4' : St (fun _ => False) W w4 [wO v S3 (addM m x y), wO g S2 m] := S4
            have t1 := (S4'.base.cell (p := ⟨b2, o2, none⟩) HT.out.1).trans HT.out.2
            have H4 := Lib.hid S4'
            clear S4 S4' H3 t0 c0
            go_wp2_with fail
            refine (add_st H4.out 1 rfl x y HI.out.2.2.2.2.1 HI.out.2.2.2.2.2 (by have := HI.out; omega)).mono ?_
            rintro e w5 ⟨rfl, S5, S6⟩
            have H5 := Lib.hid (show St (fun _ => False) W w5 [wO v S3 (addM m x y), wO g S5 (addM m x y)] from S6)
            clear S6 H4 t1
            go_wp2_with fail
            go_roundg (ids.length - j)
            case measure => have := HI.out; omega
            case rel =>
              have := HI.out
              have := addM_len m x y
              exact ⟨j + 1, addM m x y, S3, S5, by go_num, by omega, by omega, by omega, by omega, H5.out⟩
        · have hje : j = ids.length := by omega
          have hjl' : ¬ ((j : Int) < (ids.length : Int)) := by omega
          have HE := Lib.hid (show ∃ (m : List S56) (S1 S2 : Nat → Prop), m.length ≤ 1000 ∧ St (fun _ => False) W wr [wO v S1 m, wO g S2 m] from ⟨m, S1, S2, by omega, S3⟩)
          clear S3
          go_wp2_with fail
          go_meet
          exact HE.out
    case rest =>
      clear H2
      obtain ⟨m, S1', S2', hml, S3⟩ := hcut
      have HML := Lib.hid hml
      have H3 := Lib.hid S3
      clear S3 hml
      go_wp2_with fail
      refine (due_st H3.out 0 rfl s (by have := HML.out; omega)).mono ?_
      rintro e w4 ⟨v4, y1, S4, rfl, p1, s1, S5⟩
      obtain ⟨i1, hi1⟩ : ∃ i1, y1.map S56.f0 = i1 := ⟨_, rfl⟩
      rw [hi1] at S5
      obtain ⟨m1, hm1⟩ : ∃ m1, (m.filter fun tt => !dueB s tt) = m1 := ⟨_, rfl⟩
      rw [hm1] at S5
      have hil : i1.length ≤ m.length := by rw [← hi1, List.length_map, p1.length_eq]; exact List.length_filter_le _ _
      have HP1 := Lib.hid (And.intro p1 (And.intro s1 (And.intro hi1 (And.intro hm1 hil))))
      have H5 := Lib.hid (show St (fun _ => False) W w4 [wO v S4 m1, wO g S2' m, slc (Kd.int .i64) 3 v4 i1] from S5)
      obtain ⟨A4, c4, rfl⟩ := Kd.R_slice (H5.out.get 2 rfl).1
      clear S5 p1 s1 hi1 hm1 hil H3
      go_wp2_with fail
      obtain ⟨z, hz⟩ : ∃ z, w4.heap.size = z := ⟨_, rfl⟩
      have H6 := Lib.hid (H5.out.empty (flInt .i64) 3 z hz)
      rw [hz]
      clear hz H5
      generalize World.alloc w4 _ = w6 at *
      refine (due_st H6.out 1 rfl t (by have := HML.out; omega)).mono ?_
      rintro e w7 ⟨v7, y2, S7, rfl, p2, s2, S8⟩
      obtain ⟨i2, hi2⟩ : ∃ i2, y2.map S56.f0 = i2 := ⟨_, rfl⟩
      rw [hi2] at S8
      obtain ⟨m2, hm2⟩ : ∃ m2, (m.filter fun tt => !dueB t tt) = m2 := ⟨_, rfl⟩
      rw [hm2] at S8
      have hil : i2.length ≤ m.length := by rw [← hi2, List.length_map, p2.length_eq]; exact List.length_filter_le _ _
      have hml2 : m2.length ≤ m.length := by rw [← hm2]; exact List.length_filter_le _ _
      have HP2 := Lib.hid (And.intro p2 (And.intro s2 (And.intro hi2 (And.intro hm2 (And.intro hil hml2)))))
      have H8 := Lib.hid (show St (fun _ => False) W w7 [wO v S4 m1, wO g S7 m2, slc (Kd.int .i64) 3 (.slice A4 i1.length c4) i1, slc (Kd.int .i64) 3 (.slice (some ⟨z, 0, none⟩) 0 0) [], slc (Kd.int .i64) 3 v7 i2] from S8)
      obtain ⟨A7, c7, rfl⟩ := Kd.R_slice (H8.out.get 4 rfl).1
      clear S8 p2 s2 hi2 hm2 hil hml2 H6
      have hcap2 := Lib.hid (show (([] : List Int).length + i2.length) * 8 ≤ 140737488355328 by have := HML.out; have := HP2.out.2.2.2.2.1; simp only [List.length_nil]; omega)
      go_wp2_with (at_builtin; go_loud (refine St.wpN (flInt .i64) rfl _ _ 22 3 (.int .i64 0) 8 rfl Try.underlying22 info3 rfl (by decide) (by decide) H8.out 3 rfl i2 A7 c7 rfl rfl (Kd.R_reads' (H8.out.get 4 rfl).1).2.2 hcap2.out ?_))
      intro T A9 c9 w9 h9
      obtain rfl : T = i2 := h9.out.1
      have H9 := Lib.hid (show St (fun _ => False) W w9 [wO v S4 m1, wO g S7 m2, slc (Kd.int .i64) 3 (.slice A4 i1.length c4) i1, slc (Kd.int .i64) 3 (.slice A9 T.length c9) T, slc (Kd.int .i64) 3 (.slice A7 T.length c7) T] from h9.out.2)
      clear h9 H8
      go_wp2_with fail
      refine (due_st H9.out 1 rfl s (by have := HML.out; have := HP2.out.2.2.2.2.2; omega)).mono ?_
      rintro e w10 ⟨v10, y3, S10, rfl, p3, s3, S11⟩
      obtain ⟨i3, hi3⟩ : ∃ i3, y3.map S56.f0 = i3 := ⟨_, rfl⟩
      rw [hi3] at S11
      obtain ⟨m3, hm3⟩ : ∃ m3, (m2.filter fun tt => !dueB s tt) = m3 := ⟨_, rfl⟩
      rw [hm3] at S11
      have hil : i3.length ≤ m2.length := by rw [← hi3, List.length_map, p3.length_eq]; exact List.length_filter_le _ _
      have hy : y1 = y2 ++ y3 := parts_sorted hlh HP1.out.1 HP1.out.2.1 HP2.out.1 HP2.out.2.1 (by rw [HP2.out.2.2.2.1]; exact p3) s3
      have hi : T ++ i3 = i1 := by rw [← HP1.out.2.2.1, hy, List.map_append, HP2.out.2.2.1, hi3]
      have hmm : m3.length = m1.length := by
        rw [← hm3, ← HP2.out.2.2.2.1, ← HP1.out.2.2.2.1, List.filter_filter]
        congr 1
        refine List.filter_congr fun tt _ => ?_
        unfold dueB
        rw [Bool.eq_iff_iff]
        simp only [Bool.and_eq_true, Bool.not_eq_true', decide_eq_false_iff_not]
        omega
      have HP3 := Lib.hid (And.intro hi (And.intro hmm hil))
      have H11 := Lib.hid (show St (fun _ => False) W w10 [wO v S4 m1, wO g S10 m3, slc (Kd.int .i64) 3 (.slice A4 i1.length c4) i1, slc (Kd.int .i64) 3 (.slice A9 T.length c9) T, slc (Kd.int .i64) 3 (.slice A7 T.length c7) T, slc (Kd.int .i64) 3 v10 i3] from S11)
      obtain ⟨A10, c10, rfl⟩ := Kd.R_slice (H11.out.get 5 rfl).1
      clear S11 p3 s3 hi3 hm3 hil hy hi hmm H9
      have hcap3 := Lib.hid (show (T.length + i3.length) * 8 ≤ 140737488355328 by have := HML.out; have := HP2.out.2.2.2.2; have := HP3.out.2.2; omega)
      go_wp2_with (at_builtin; go_loud (refine St.wpN (flInt .i64) rfl _ _ 22 3 (.int .i64 0) 8 rfl Try.underlying22 info3 rfl (by decide) (by decide) H11.out 3 rfl i3 A10 c10 rfl rfl (Kd.R_reads' (H11.out.get 5 rfl).1).2.2 hcap3.out ?_))
      intro T2 A12 c12 w12 h12
      have hT2 : T2 = i1 := h12.out.1.trans HP3.out.1
      subst hT2
      have H12 := Lib.hid (show St (fun _ => False) W w12 [wO v S4 m1, wO g S10 m3, slc (Kd.int .i64) 3 (.slice A4 T2.length c4) T2, slc (Kd.int .i64) 3 (.slice A12 T2.length c12) T2] from h12.out.2.sub (List.sublist_append_left [_, _, _, _] [_, _]))
      clear h12 H11
      go_wp2_with fail
      refine (fixed_c w12).mono ?_
      rintro e w13 ⟨rfl, b13⟩
      have H13 := Lib.hid (H12.out.below b13)
      clear b13 H12
      go_wp2_with fail
      have r1 := Kd.R_reads' (H13.out.get 2 rfl).1
      have r2 := Kd.R_reads' (H13.out.get 3 rfl).1
      refine (same_c T2 (by have := HML.out; have := HP1.out.2.2.2.2; omega) A4 A12 c4 c12 w13 r1.2.2 r1.2.1 r2.2.2 r2.2.1).mono ?_
      clear r1 r2
      rintro e w14 ⟨rfl, b14⟩
      have H14 := Lib.hid (H13.out.below b14)
      clear b14 H13
      go_wp2_with fail
      refine (len_c H14.out 0 rfl).mono ?_
      rintro e w15 ⟨rfl, rfl⟩
      go_wp2_with fail
      refine (len_c H14.out 1 rfl).mono ?_
      rw [HP3.out.2.1]
      rintro e w16 ⟨rfl, rfl⟩
      go_wp2_with fail
      go_ret
      exact ⟨by simp, H14.out.base⟩

  · have hlh : s ≤ t := by omega
    go_upto_block 0 with fail
    go_cut [] (fun wx => ∃ (m : List S56) (S1 S2 : Nat → Prop), m.length ≤ 1000 ∧ St (fun _ => False) W wx [wO v S1 m, wO g S2 m])
    case first =>
      go_wp2_with fail
      go_loopg [24] (ids.length + 1) (fun n v24 wx => ∃ (j : Nat) (m : List S56) (S1 S2 : Nat → Prop), v24 = .int .i64 j ∧ j ≤ ids.length ∧ ids.length - j < n ∧ j ≤ 101 ∧ m.length ≤ j ∧ St (fun _ => False) W wx [wO v S1 m, wO g S2 m])
      case atStart => exact ⟨0, [], _, _, rfl, by omega, by omega, by omega, by simp, H2.out⟩
      case round =>
        clear H2
        obtain ⟨j, m, S1, S2, rfl, hj, hjm, hj1, hml, S3⟩ := hrel
        by_cases hjl : j < ids.length
        · have hjl' : (j : Int) < (ids.length : Int) := by omega
          have hj0 : (0 : Int) ≤ (j : Int) := by omega
          obtain ⟨x, hx⟩ : ∃ x, ids[j]? = some x := ⟨_, List.getElem?_eq_getElem hjl⟩
          obtain ⟨ad, b, o, cs, rfl, had, hb, hK, hcs⟩ := C_at HC.out.1 hx (by decide)
          have hK' : cs = [.int .i64 x] := (flInt .i64).K.1 hK
          subst hK'
          have c0 := (S3.base.cell (p := ⟨b, o, none⟩) hb).trans (hcs 0 _ rfl)
          have had' : ad.add j = ⟨b, o, none⟩ := by rw [show j * (Kd.int .i64).sz = j from Nat.mul_one j] at had; exact had
          by_cases hbr : (100 : Int) < (j : Int) ∨ (ts.length : Int) ≤ (j : Int)
          · have HE := Lib.hid (show ∃ (m : List S56) (S1 S2 : Nat → Prop), m.length ≤ 1000 ∧ St (fun _ => False) W wr [wO v S1 m, wO g S2 m] from ⟨m, S1, S2, by omega, S3⟩)
            clear S3 hK hcs had
            by_cases hb1 : (100 : Int) < (j : Int)
            · clear hbr
              go_wp2_with fail
              go_meet
              exact HE.out
            · have hb2 : (ts.length : Int) ≤ (j : Int) := hbr.resolve_left hb1
              clear hbr
              go_wp2_with fail
              go_meet
              exact HE.out
          · have hb1 : ¬ (100 : Int) < (j : Int) := fun h => hbr (.inl h)
            have hb2 : ¬ (ts.length : Int) ≤ (j : Int) := fun h => hbr (.inr h)
            have hb3 : (j : Int) < (ts.length : Int) := by omega
            clear hbr
            obtain ⟨y, hy⟩ : ∃ y, ts[j]? = some y := ⟨_, List.getElem?_eq_getElem (by omega)⟩
            have hyr := u64_wf (HC.out.2.2 y (List.mem_of_getElem? hy))
            obtain ⟨ad2, b2, o2, cs2, rfl, had2, hbb2, hK2, hcs2⟩ := C_at HC.out.2.1 hy (by decide)
            have hK2' : cs2 = [.int .u64 y] := (flInt .u64).K.1 hK2
            subst hK2'
            have t0 := (S3.base.cell (p := ⟨b2, o2, none⟩) hbb2).trans (hcs2 0 _ rfl)
            have had2' : ad2.add j = ⟨b2, o2, none⟩ := by rw [show j * (Kd.int .u64).sz = j from Nat.mul_one j] at had2; exact had2
            have H3 := Lib.hid S3
            have HT := Lib.hid (And.intro hbb2 (hcs2 0 _ rfl))
            have HI := Lib.hid (And.intro hj (And.intro hjm (And.intro hj1 (And.intro hml hyr))))
            clear S3 hK hcs had hK2 hcs2 had2 hj hjm hyr hml hx hy hj1
            go_wp2_with fail
            refine (add_st H3.out 0 rfl x y HI.out.2.2.2.2.1 HI.out.2.2.2.2.2 (by have := HI.out; omega)).mono ?_
            rintro e w4 ⟨rfl, S3, S4⟩
            have S4' : St (fun _ => False) W w4 [wO v S3 (addM m x y), wO g S2 m] := S4
            have t1 := (S4'.base.cell (p := ⟨b2, o2, none⟩) HT.out.1).trans HT.out.2
            have H4 := Lib.hid S4'
            clear S4 S4' H3 t0 c0
            go_wp2_with fail
            refine (add_st H4.out 1 rfl x y HI.out.2.2.2.2.1 HI.out.2.2.2.2.2 (by have := HI.out; omega)).mono ?_
            rintro e w5 ⟨rfl, S5, S6⟩
            have H5 := Lib.hid (show St (fun _ => False) W w5 [wO v S3 (addM m x y), wO g S5 (addM m x y)] from S6)
            clear S6 H4 t1
            go_wp2_with fail
            go_roundg (ids.length - j)
            case measure => have := HI.out; omega
            case rel =>
              have := HI.out
              have := addM_len m x y
              exact ⟨j + 1, addM m x y, S3, S5, by go_num, by omega, by omega, by omega, by omega, H5.out⟩
        · have hje : j = ids.length := by omega
          have hjl' : ¬ ((j : Int) < (ids.length : Int)) := by omega
          have HE := Lib.hid (show ∃ (m : List S56) (S1 S2 : Nat → Prop), m.length ≤ 1000 ∧ St (fun _ => False) W wr [wO v S1 m, wO g S2 m] from ⟨m, S1, S2, by omega, S3⟩)
          clear S3
          go_wp2_with fail
          go_meet
          exact HE.out
    case rest =>
      clear H2
      obtain ⟨m, S1', S2', hml, S3⟩ := hcut
      have HML := Lib.hid hml
      have H3 := Lib.hid S3
      clear S3 hml
      go_wp2_with fail
      refine (due_st H3.out 0 rfl t (by have := HML.out; omega)).mono ?_
      rintro e w4 ⟨v4, y1, S4, rfl, p1, s1, S5⟩
      obtain ⟨i1, hi1⟩ : ∃ i1, y1.map S56.f0 = i1 := ⟨_, rfl⟩
      rw [hi1] at S5
      obtain ⟨m1, hm1⟩ : ∃ m1, (m.filter fun tt => !dueB t tt) = m1 := ⟨_, rfl⟩
      rw [hm1] at S5
      have hil : i1.length ≤ m.length := by rw [← hi1, List.length_map, p1.length_eq]; exact List.length_filter_le _ _
      have HP1 := Lib.hid (And.intro p1 (And.intro s1 (And.intro hi1 (And.intro hm1 hil))))
      have H5 := Lib.hid (show St (fun _ => False) W w4 [wO v S4 m1, wO g S2' m, slc (Kd.int .i64) 3 v4 i1] from S5)
      obtain ⟨A4, c4, rfl⟩ := Kd.R_slice (H5.out.get 2 rfl).1
      clear S5 p1 s1 hi1 hm1 hil H3
      go_wp2_with fail
      obtain ⟨z, hz⟩ : ∃ z, w4.heap.size = z := ⟨_, rfl⟩
      have H6 := Lib.hid (H5.out.empty (flInt .i64) 3 z hz)
      rw [hz]
      clear hz H5
      generalize World.alloc w4 _ = w6 at *
      refine (due_st H6.out 1 rfl s (by have := HML.out; omega)).mono ?_
      rintro e w7 ⟨v7, y2, S7, rfl, p2, s2, S8⟩
      obtain ⟨i2, hi2⟩ : ∃ i2, y2.map S56.f0 = i2 := ⟨_, rfl⟩
      rw [hi2] at S8
      obtain ⟨m2, hm2⟩ : ∃ m2, (m.filter fun tt => !dueB s tt) = m2 := ⟨_, rfl⟩
      rw [hm2] at S8
      have hil : i2.length ≤ m.length := by rw [← hi2, List.length_map, p2.length_eq]; exact List.length_filter_le _ _
      have hml2 : m2.length ≤ m.length := by rw [← hm2]; exact List.length_filter_le _ _
      have HP2 := Lib.hid (And.intro p2 (And.intro s2 (And.intro hi2 (And.intro hm2 (And.intro hil hml2)))))
      have H8 := Lib.hid (show St (fun _ => False) W w7 [wO v S4 m1, wO g S7 m2, slc (Kd.int .i64) 3 (.slice A4 i1.length c4) i1, slc (Kd.int .i64) 3 (.slice (some ⟨z, 0, none⟩) 0 0) [], slc (Kd.int .i64) 3 v7 i2] from S8)
      obtain ⟨A7, c7, rfl⟩ := Kd.R_slice (H8.out.get 4 rfl).1
      clear S8 p2 s2 hi2 hm2 hil hml2 H6
      have hcap2 := Lib.hid (show (([] : List Int).length + i2.length) * 8 ≤ 140737488355328 by have := HML.out; have := HP2.out.2.2.2.2.1; simp only [List.length_nil]; omega)
      go_wp2_with (at_builtin; go_loud (refine St.wpN (flInt .i64) rfl _ _ 22 3 (.int .i64 0) 8 rfl Try.underlying22 info3 rfl (by decide) (by decide) H8.out 3 rfl i2 A7 c7 rfl rfl (Kd.R_reads' (H8.out.get 4 rfl).1).2.2 hcap2.out ?_))
      intro T A9 c9 w9 h9
      obtain rfl : T = i2 := h9.out.1
      have H9 := Lib.hid (show St (fun _ => False) W w9 [wO v S4 m1, wO g S7 m2, slc (Kd.int .i64) 3 (.slice A4 i1.length c4) i1, slc (Kd.int .i64) 3 (.slice A9 T.length c9) T, slc (Kd.int .i64) 3 (.slice A7 T.length c7) T] from h9.out.2)
      clear h9 H8
      go_wp2_with fail
      refine (due_st H9.out 1 rfl t (by have := HML.out; have := HP2.out.2.2.2.2.2; omega)).mono ?_
      rintro e w10 ⟨v10, y3, S10, rfl, p3, s3, S11⟩
      obtain ⟨i3, hi3⟩ : ∃ i3, y3.map S56.f0 = i3 := ⟨_, rfl⟩
      rw [hi3] at S11
      obtain ⟨m3, hm3⟩ : ∃ m3, (m2.filter fun tt => !dueB t tt) = m3 := ⟨_, rfl⟩
      rw [hm3] at S11
      have hil : i3.length ≤ m2.length := by rw [← hi3, List.length_map, p3.length_eq]; exact List.length_filter_le _ _
      have hy : y1 = y2 ++ y3 := parts_sorted hlh HP1.out.1 HP1.out.2.1 HP2.out.1 HP2.out.2.1 (by rw [HP2.out.2.2.2.1]; exact p3) s3
      have hi : T ++ i3 = i1 := by rw [← HP1.out.2.2.1, hy, List.map_append, HP2.out.2.2.1, hi3]
      have hmm : m3.length = m1.length := by
        rw [← hm3, ← HP2.out.2.2.2.1, ← HP1.out.2.2.2.1, List.filter_filter]
        congr 1
        refine List.filter_congr fun tt _ => ?_
        unfold dueB
        rw [Bool.eq_iff_iff]
        simp only [Bool.and_eq_true, Bool.not_eq_true', decide_eq_false_iff_not]
        omega
      have HP3 := Lib.hid (And.intro hi (And.intro hmm hil))
      have H11 := Lib.hid (show St (fun _ => False) W w10 [wO v S4 m1, wO g S10 m3, slc (Kd.int .i64) 3 (.slice A4 i1.length c4) i1, slc (Kd.int .i64) 3 (.slice A9 T.length c9) T, slc (Kd.int .i64) 3 (.slice A7 T.length c7) T, slc (Kd.int .i64) 3 v10 i3] from S11)
      obtain ⟨A10, c10, rfl⟩ := Kd.R_slice (H11.out.get 5 rfl).1
      clear S11 p3 s3 hi3 hm3 hil hy hi hmm H9
      have hcap3 := Lib.hid (show (T.length + i3.length) * 8 ≤ 140737488355328 by have := HML.out; have := HP2.out.2.2.2.2; have := HP3.out.2.2; omega)
      go_wp2_with (at_builtin; go_loud (refine St.wpN (flInt .i64) rfl _ _ 22 3 (.int .i64 0) 8 rfl Try.underlying22 info3 rfl (by decide) (by decide) H11.out 3 rfl i3 A10 c10 rfl rfl (Kd.R_reads' (H11.out.get 5 rfl).1).2.2 hcap3.out ?_))
      intro T2 A12 c12 w12 h12
      have hT2 : T2 = i1 := h12.out.1.trans HP3.out.1
      subst hT2
      have H12 := Lib.hid (show St (fun _ => False) W w12 [wO v S4 m1, wO g S10 m3, slc (Kd.int .i64) 3 (.slice A4 T2.length c4) T2, slc (Kd.int .i64) 3 (.slice A12 T2.length c12) T2] from h12.out.2.sub (List.sublist_append_left [_, _, _, _] [_, _]))
      clear h12 H11
      go_wp2_with fail
      refine (fixed_c w12).mono ?_
      rintro e w13 ⟨rfl, b13⟩
      have H13 := Lib.hid (H12.out.below b13)
      clear b13 H12
      go_wp2_with fail
      have r1 := Kd.R_reads' (H13.out.get 2 rfl).1
      have r2 := Kd.R_reads' (H13.out.get 3 rfl).1
      refine (same_c T2 (by have := HML.out; have := HP1.out.2.2.2.2; omega) A4 A12 c4 c12 w13 r1.2.2 r1.2.1 r2.2.2 r2.2.1).mono ?_
      clear r1 r2
      rintro e w14 ⟨rfl, b14⟩
      have H14 := Lib.hid (H13.out.below b14)
      clear b14 H13
      go_wp2_with fail
      refine (len_c H14.out 0 rfl).mono ?_
      rintro e w15 ⟨rfl, rfl⟩
      go_wp2_with fail
      refine (len_c H14.out 1 rfl).mono ?_
      rw [HP3.out.2.1]
      rintro e w16 ⟨rfl, rfl⟩
      go_wp2_with fail
      go_ret
      exact ⟨by simp, H14.out.base⟩

end Go.Proofs.Ythkaahpaechljaa
