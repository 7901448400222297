import Derived.Test.YticbobhkijpbkaaRL
namespace Go.Proofs.Yticbobhkijpbkaa
open Go.RowKit Go.Tat Go.Proofs.YticbobhkijpbkaaW.PrintWords PRingOwners
set_option maxRecDepth 100000 in
set_option maxHeartbeats 4000000 in
theorem more_c (key : ByteArray) (l : List Int) (A : Option Addr) (c : Nat) (n : Int) (hn : 0 ≤ n ∧ n < 256) (W : World) (hC : (Kd.int .u8).C W A l.length l) (hc : l.length ≤ c) (h0 : ∀ x ∈ l, 0 ≤ x ∧ x < 256) :
    Calls Try.prog 7 #[.string key, .slice A l.length c, .int .u8 n] W fun e w' => e = .returned (.bool true) ∧ Below W.heap.size W w' := by
  have HN := Lib.hid hn
  clear hn
  have hC1 := Kd.C_below hC ((Below.refl _ _).alloc (Nat.le_refl _) (.cells #[.slice A l.length c] 22))
  have HG := Lib.hid (great_c key [l] _ 1 _ (C_slice1 (heap_alloc_new W (.cells #[.slice A l.length c] 22)) hc hC1) (Nat.le_refl 1) (Nat.lt_of_lt_of_le Nat.one_lt_two (by decide)))
  have HB0 := Lib.hid ((Below.refl W.heap.size W).alloc (Nat.le_refl _) (.cells #[.slice A l.length c] 22))
  have HC := Lib.hid (And.intro hC (And.intro hc h0))
  have hc' := hc
  have hmx := Kd.C_max hC
  clear hC hC1 hc h0
  go_enter Try.func7, Try.ntmps7
  go_wp2_with fail
  generalize World.alloc _ _ = w1 at *
  refine HG.out.mono ?_
  rintro e w2 ⟨rfl, dr⟩
  have HB := Lib.hid (HB0.out.trans (dr.below.mono HB0.out.size))
  clear HG HB0 dr
  cases hg : greatB key [l] with
  | true =>
    clear hg
    go_wp2_with fail
    refine (fixed_c w2).mono ?_
    rintro e w3 ⟨rfl, b3⟩
    have HB3 := Lib.hid (HB.out.trans (b3.mono HB.out.size))
    clear b3 HB
    go_wp2_with fail
    go_ret
    exact ⟨rfl, HB3.out⟩
  | false =>
    obtain ⟨hks, hll⟩ := great_no hg
    have HK := Lib.hid (And.intro hks hll)
    clear hg hks
    obtain ⟨z, hz⟩ : ∃ z, w2.heap.size = z := ⟨_, rfl⟩
    have HS1 := Lib.hid ((St.nil (fun _ => False) w2).empty (flInt .u8) 5 z hz)
    go_wp2_with (at_builtin; go_loud (refine St.wpN (flInt .u8) rfl _ _ 22 5 (.int .u8 0) 1 rfl Try.underlying22 info5 rfl (by decide) (by decide) HS1.out 0 rfl l A _ rfl rfl (Kd.C_below HC.out.1 (HB.out.trans (HS1.out.base.mono HB.out.size))) (by simp only [List.length_nil]; omega) ?_))
    intro T3 A3 c3 w3 h3
    have HS3 := Lib.hid h3.out.2
    obtain rfl : T3 = l := h3.out.1
    clear h3 HS1 hz
    go_wp2_with (at_builtin; go_loud (refine St.wp1 (flInt .u8) rfl _ _ 22 5 (.int .u8 0) 1 rfl Try.underlying22 info5 rfl (by decide) (by decide) HS3.out 0 rfl n #[.int .u8 n] rfl rfl rfl (by omega) ?_))
    intro T A4 c4 w4 h4
    have hTl : T.length ≤ 201 := by rw [h4.out.1, List.length_append]; simp only [List.length_cons, List.length_nil]; omega
    have hT0 : ∀ x ∈ T, 0 ≤ x ∧ x < 256 := fun x hx => by
      rw [h4.out.1] at hx
      rcases List.mem_append.1 hx with hx | hx
      · exact HC.out.2.2 x hx
      · rw [List.mem_singleton.1 hx]; exact HN.out
    have HT := Lib.hid (And.intro h4.out.1 (And.intro hTl hT0))
    have HS4 := Lib.hid h4.out.2
    clear hTl hT0 h4 HS3
    go_wp2_with fail
    refine (owners_st HS4.out key (by have := HK.out; omega) T3 A c (Kd.C_below HC.out.1 (HB.out.trans (HS4.out.base.mono HB.out.size))) HC.out.2.2 (by omega)).mono ?_
    rintro e w5 ⟨v5, rfl, S5⟩
    obtain ⟨A5, c5, rfl⟩ := Kd.R_slice (S5.get 1 rfl).1
    have H5 := Lib.hid S5
    have hol := own_len key T3
    obtain ⟨o, ho⟩ : ∃ o, own key T3 = o := ⟨_, rfl⟩
    have HO := Lib.hid ho
    rw [ho] at H5 hol ⊢
    clear S5 HS4 ho
    have HL1 := Lib.hid (more_lost key T3 n)
    go_wp2_with fail
    go_loopg [8, 28] (o.length + 1) (fun m v8 v28 wx => ∃ j q : Nat, v8 = .int .i64 q ∧ v28 = .int .i64 j ∧ j ≤ o.length ∧ o.length - j < m ∧ q = ((o.take j).filter fun x => decide (x ∉ own key T)).length ∧ St (fun _ => False) w2 wx [slc (Kd.int .u8) 5 (.slice A4 T.length c4) T, slc (Kd.int .u8) 5 (.slice A5 o.length c5) o])
    case atStart => exact ⟨0, 0, rfl, rfl, by omega, by omega, rfl, H5.out⟩
    case round =>
      clear H5
      obtain ⟨j, q, rfl, rfl, hj, hjm, hq, S8⟩ := hrel
      by_cases hjl : j < o.length
      · have hjl2 : (j : Int) < (o.length : Int) := by omega
        have hj0 : (0 : Int) ≤ (j : Int) := by omega
        obtain ⟨x, hx⟩ : ∃ x, o[j]? = some x := ⟨_, List.getElem?_eq_getElem hjl⟩
        obtain ⟨gO, cO, hv, hgO, hcO⟩ := slc_form (S8.get 1 rfl) (by omega)
        injection hv with hv1 hvl hv2
        subst hv1; subst hv2
        have a0 : wr.cell? ⟨gO, j, none⟩ = some (.int .u8 x) := slc_int (S8.get 1 rfl) hx
        have hql : q ≤ j := by
          rw [hq]
          refine Nat.le_trans (List.length_filter_le _ _) ?_
          rw [List.length_take]
          omega
        have htk : o.take (j + 1) = o.take j ++ [x] := by rw [List.take_add_one, hx]; rfl
        have HX := Lib.hid htk
        have H8 := Lib.hid S8
        have HI := Lib.hid (And.intro hj (And.intro hjm hq))
        clear hvl hx hgO hcO S8 hj hjm hq htk
        go_wp2_with fail
        refine (owns_c key (by have := HK.out; omega) T A4 c4 wr (Kd.R_reads' (H8.out.get 0 rfl).1).2.2 HT.out.2.2 (by have := HT.out.2.1; omega) x).mono ?_
        rintro e w9 ⟨rfl, b9⟩
        have H9 := Lib.hid (H8.out.below b9)
        clear H8 b9 a0
        by_cases hxT : x ∈ own key T
        · have e : decide (x ∈ own key T) = true := decide_eq_true hxT
          rw [e]
          have HXT := Lib.hid hxT
          clear e hxT
          go_wp2_with fail
          go_roundg (o.length - j)
          case measure => have := HI.out; omega
          case rel =>
            have := HI.out
            refine ⟨j + 1, q, rfl, by go_num, by omega, by omega, ?_, H9.out⟩
            rw [HX.out, List.filter_append, List.length_append, ← HI.out.2.2]
            simp [HXT.out]
        · have e : decide (x ∈ own key T) = false := decide_eq_false hxT
          rw [e]
          have HXT := Lib.hid hxT
          clear e hxT
          go_wp2_with fail
          go_roundg (o.length - j)
          case measure => have := HI.out; omega
          case rel =>
            have := HI.out
            refine ⟨j + 1, q + 1, by go_num, by go_num, by omega, by omega, ?_, H9.out⟩
            rw [HX.out, List.filter_append, List.length_append, ← HI.out.2.2]
            simp [HXT.out]
      · have hjl2 : ¬ (j : Int) < (o.length : Int) := by omega
        have ej : j = o.length := by omega
        subst ej
        rw [List.take_length] at hq
        have hq1 : (q : Int) ≤ 1 := by
          have := HL1.out
          rw [HO.out, ← HT.out.1, ← hq] at this
          omega
        have H8 := Lib.hid S8
        clear S8 hj hjm hq hjl
        go_wp2_with fail
        refine (owners_st H8.out key (by have := HK.out; omega) T A4 c4 (Kd.R_reads' (H8.out.get 0 rfl).1).2.2 HT.out.2.2 (by have := HT.out.2.1; omega)).mono ?_
        rintro e w9 ⟨v9, rfl, S9⟩
        obtain ⟨A9, c9, rfl⟩ := Kd.R_slice (S9.get 2 rfl).1
        have hol2 := own_len key T
        obtain ⟨o2, ho2⟩ : ∃ o2, own key T = o2 := ⟨_, rfl⟩
        have HO2 := Lib.hid ho2
        rw [ho2] at S9 hol2 ⊢
        have H9 := Lib.hid (S9.sub (M := [slc (Kd.int .u8) 5 (.slice A9 o2.length c9) o2]) (by simp))
        clear S9 H8 ho2
        go_wp2_with fail
        go_loopg [44] (o2.length + 1) (fun m v44 wx => ∃ j : Nat, v44 = .int .i64 j ∧ j ≤ o2.length ∧ o2.length - j < m ∧ St (fun _ => False) w2 wx [slc (Kd.int .u8) 5 (.slice A9 o2.length c9) o2])
        case atStart => exact ⟨0, rfl, by omega, by omega, H9.out⟩
        case round =>
          clear H9
          obtain ⟨j, rfl, hj, hjm, S10⟩ := hrel
          by_cases hjl : j < o2.length
          · have hjl2 : (j : Int) < (o2.length : Int) := by omega
            have hj0 : (0 : Int) ≤ (j : Int) := by omega
            obtain ⟨x, hx⟩ : ∃ x, o2[j]? = some x := ⟨_, List.getElem?_eq_getElem hjl⟩
            obtain ⟨gO, cO, hv, hgO, hcO⟩ := slc_form (S10.get 0 rfl) (by omega)
            injection hv with hv1 hvl hv2
            subst hv1; subst hv2
            have a0 : wr.cell? ⟨gO, j, none⟩ = some (.int .u8 x) := slc_int (S10.get 0 rfl) hx
            have HX := Lib.hid (List.mem_of_getElem? hx)
            have H10 := Lib.hid S10
            have HI := Lib.hid (And.intro hj hjm)
            clear hvl hx hgO hcO S10 hj hjm
            by_cases hxn : x = n
            · subst hxn
              go_wp2_with fail
              go_roundg (o2.length - j)
              case measure => have := HI.out; omega
              case rel => have := HI.out; exact ⟨j + 1, by go_num, by omega, by omega, H10.out⟩
            · have HM := Lib.hid (more_stays (by rw [← HT.out.1, HO2.out]; exact HX.out : x ∈ own key (T3 ++ [n])) hxn)
              go_wp2_with fail
              refine (owns_c key (by have := HK.out; omega) T3 A c wr (Kd.C_below HC.out.1 (HB.out.trans (H10.out.base.mono HB.out.size))) HC.out.2.2 (by omega) x).mono ?_
              rw [decide_eq_true HM.out]
              rintro e w11 ⟨rfl, b11⟩
              have H11 := Lib.hid (H10.out.below b11)
              clear H10 b11 a0
              go_wp2_with fail
              go_roundg (o2.length - j)
              case measure => have := HI.out; omega
              case rel => have := HI.out; exact ⟨j + 1, by go_num, by omega, by omega, H11.out⟩
          · have hjl2 : ¬ (j : Int) < (o2.length : Int) := by omega
            have H10 := Lib.hid S10
            clear S10 hj hjm
            go_wp2_with fail
            refine (fixed_c wr).mono ?_
            rintro e w11 ⟨rfl, b11⟩
            have H11 := Lib.hid (H10.out.below b11).base
            clear H10 b11
            go_wp2_with fail
            go_ret
            exact ⟨rfl, HB.out.trans (H11.out.mono HB.out.size)⟩
end Go.Proofs.Yticbobhkijpbkaa
