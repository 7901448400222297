import Derived.Test.YticbobhkijpbkaaRK
namespace Go.Proofs.Yticbobhkijpbkaa
open Go.RowKit Go.Tat Go.Proofs.YticbobhkijpbkaaW.PrintWords PRingOwners
/-! ### One node less, one more -/
abbrev but (n : Int) (l : List Int) : List Int := l.filter fun x => decide (x ≠ n)
theorem but_take {n : Int} {L : List Int} (h : n ∉ L.take 2) : (but n L).take 2 = L.take 2 := by
  match L, h with
  | [], _ => rfl
  | [a], h =>
    have h1 : a ≠ n := fun e => h (by simp [e])
    simp [but, h1]
  | a :: b :: t, h =>
    have h1 : a ≠ n := fun e => h (by simp [e])
    have h2 : b ≠ n := fun e => h (by simp [e])
    simp [but, h1, h2]
theorem but_stays {n x : Int} {L : List Int} (h : x ∈ L.take 2) (hx : x ≠ n) : x ∈ (but n L).take 2 := by
  match L, h with
  | [a], h =>
    have h1 : x = a := by simpa using h
    subst h1
    simp [but, hx]
  | a :: b :: t, h =>
    have h1 : x = a ∨ x = b := by simpa using h
    rcases h1 with rfl | rfl
    · simp [but, hx]
    · by_cases ha : a = n
      · simp [but, ha, hx]
      · simp [but, ha, hx]
theorem but_lost {n : Int} {L : List Int} (hnd : L.Nodup) : (((but n L).take 2).filter fun x => decide (x ∉ L.take 2)).length ≤ 1 := by
  match L, hnd with
  | [], _ => simp [but]
  | [a], _ =>
    by_cases ha : a = n
    · simp [but, ha]
    · simp [but, ha]
  | a :: b :: t, hnd =>
    by_cases ha : a = n
    · by_cases hb : b = n
      · rw [List.nodup_cons] at hnd
        exact absurd (by simp [ha, hb]) hnd.1
      · have e : but n (a :: b :: t) = b :: but n t := by simp [but, ha, hb]
        rw [e]
        match but n t with
        | [] => simp
        | c :: r =>
          simp only [List.take_succ_cons, List.take_zero]
          rw [List.filter_cons_of_neg (by simp)]
          exact List.length_filter_le _ _
    · have e : but n (a :: b :: t) = a :: but n (b :: t) := by simp [but, ha]
      rw [e]
      match but n (b :: t) with
      | [] => simp
      | c :: r =>
        simp only [List.take_succ_cons, List.take_zero]
        rw [List.filter_cons_of_neg (by simp)]
        exact List.length_filter_le _ _
theorem but_succ {l : List Int} {j : Nat} {x n : Int} (h : l[j]? = some x) : but n (l.take (j + 1)) = if x = n then but n (l.take j) else but n (l.take j) ++ [x] := by
  obtain ⟨hl, he⟩ := List.getElem?_eq_some_iff.1 h
  unfold but
  rw [← List.take_append_getElem hl, List.filter_append, he]
  by_cases e : x = n
  · simp [e]
  · simp [e]
theorem own_less (key : ByteArray) (l : List Int) (n : Int) : own key (but n l) = (but n (srt key l)).take 2 := by
  unfold own
  rw [srt_less]
theorem own_less_same {key : ByteArray} {l : List Int} {n : Int} (h : n ∉ own key l) : own key l = own key (but n l) := by
  rw [own_less, but_take h]
  rfl
theorem own_less_stays {key : ByteArray} {l : List Int} {n x : Int} (h : x ∈ own key l) (hx : x ≠ n) : x ∈ own key (but n l) := by
  rw [own_less]
  exact but_stays h hx
theorem own_less_gone (key : ByteArray) (l : List Int) (n : Int) : n ∉ own key (but n l) := fun h => by
  have := (own_mem h).1
  simp at this
theorem own_more (key : ByteArray) (l : List Int) (n : Int) : own key l = (but n (srt key (l ++ [n]))).take 2 ∨ own key l = own key (l ++ [n]) := by
  by_cases h : n ∈ l
  · refine .inr (own_congr key fun x => ?_)
    rw [List.mem_append, List.mem_singleton]
    exact ⟨.inl, fun e => e.elim id fun e => e ▸ h⟩
  · refine .inl ?_
    rw [← own_less]
    refine own_congr key fun x => ?_
    rw [List.mem_filter, List.mem_append, List.mem_singleton, decide_eq_true_iff]
    constructor
    · exact fun e => ⟨.inl e, fun e2 => h (e2 ▸ e)⟩
    · rintro ⟨e | e, e2⟩
      · exact e
      · exact absurd e e2
theorem more_stays {key : ByteArray} {l : List Int} {n x : Int} (h : x ∈ own key (l ++ [n])) (hx : x ≠ n) : x ∈ own key l := by
  rcases own_more key l n with e | e
  · rw [e]; exact but_stays h hx
  · rw [e]; exact h
theorem more_lost (key : ByteArray) (l : List Int) (n : Int) : ((own key l).filter fun x => decide (x ∉ own key (l ++ [n]))).length ≤ 1 := by
  rcases own_more key l n with e | e
  · rw [e]; exact but_lost (srt_nodup key _)
  · rw [e]
    have : (own key (l ++ [n])).filter (fun x => decide (x ∉ own key (l ++ [n]))) = [] := by
      rw [List.filter_eq_nil_iff]
      intro a ha
      simp [ha]
    rw [this]
    decide
set_option maxRecDepth 100000 in
set_option maxHeartbeats 4000000 in
theorem less_c (key : ByteArray) (l : List Int) (A : Option Addr) (c : Nat) (n : Int) (W : World) (hC : (Kd.int .u8).C W A l.length l) (hc : l.length ≤ c) (h0 : ∀ x ∈ l, 0 ≤ x ∧ x < 256) :
    Calls Try.prog 6 #[.string key, .slice A l.length c, .int .u8 n] W fun e w' => e = .returned (.bool true) ∧ Below W.heap.size W w' := by
  have hC1 := Kd.C_below hC ((Below.refl _ _).alloc (Nat.le_refl _) (.cells #[.slice A l.length c] 22))
  have HG := Lib.hid (great_c key [l] _ 1 _ (C_slice1 (heap_alloc_new W (.cells #[.slice A l.length c] 22)) hc hC1) (Nat.le_refl 1) (Nat.lt_of_lt_of_le Nat.one_lt_two (by decide)))
  have HB0 := Lib.hid ((Below.refl W.heap.size W).alloc (Nat.le_refl _) (.cells #[.slice A l.length c] 22))
  have HC := Lib.hid (And.intro hC (And.intro hc h0))
  have hc' := hc
  have hmx := Kd.C_max hC
  clear hC hC1 hc h0
  go_enter Try.func6, Try.ntmps6
  go_wp2_with fail
  generalize World.alloc _ _ = w1 at *
  refine HG.out.mono ?_
  rintro e w2 ⟨rfl, dr⟩
  have HB := Lib.hid (HB0.out.trans (dr.below.mono HB0.out.size))
  clear HG HB0 dr
  cases hg : greatB key [l] with
  | true =>
    clear hg
    go_wp2_with fail
    refine (fixed_c w2).mono ?_
    rintro e w3 ⟨rfl, b3⟩
    have HB3 := Lib.hid (HB.out.trans (b3.mono HB.out.size))
    clear b3 HB
    go_wp2_with fail
    go_ret
    exact ⟨rfl, HB3.out⟩
  | false =>
    obtain ⟨hks, hll⟩ := great_no hg
    have HK := Lib.hid (And.intro hks hll)
    clear hg hks
    go_wp2_with fail
    have HS := Lib.hid ((St.nil (fun _ => False) w2).nils (Kd.int .u8) 5)
    go_loopg [7, 21] (l.length + 1) (fun m v7 v21 wx => ∃ j : Nat, v21 = .int .i64 j ∧ j ≤ l.length ∧ l.length - j < m ∧ (but n (l.take j)).length ≤ j ∧ St (fun _ => False) w2 wx [slc (Kd.int .u8) 5 v7 (but n (l.take j))])
    case atStart => exact ⟨0, rfl, by omega, by omega, Nat.le_refl _, HS.out⟩
    case round =>
      clear HS
      obtain ⟨j, rfl, hj, hjm, hbl, S4⟩ := hrel
      by_cases hjl : j < l.length
      · have hjl' : (j : Int) < (l.length : Int) := by omega
        have hj0 : (0 : Int) ≤ (j : Int) := by omega
        obtain ⟨x, hx⟩ : ∃ x, l[j]? = some x := ⟨_, List.getElem?_eq_getElem hjl⟩
        obtain ⟨ad, b, o', cs, rfl, had, hb, hK, hcs⟩ := C_at HC.out.1 hx (by decide)
        obtain rfl : cs = [.int .u8 x] := hK
        have hBw := HB.out.trans (S4.base.mono HB.out.size)
        have c0 : wr.cell? ⟨b, o', none⟩ = some (.int .u8 x) := (hBw.cell (p := ⟨b, o', none⟩) hb).trans (hcs 0 _ rfl)
        have had' : ad.add j = ⟨b, o', none⟩ := by
          have e : j * (Kd.int .u8).sz = j := Nat.mul_one j
          rw [e] at had
          exact had
        have hsc := Lib.hid (but_succ (n := n) hx)
        obtain ⟨D, hD⟩ : ∃ D, but n (l.take j) = D := ⟨_, rfl⟩
        rw [hD] at S4 hbl
        have HD := Lib.hid hD
        have HI := Lib.hid (And.intro hj (And.intro hjm hbl))
        obtain ⟨A4, c4, rfl⟩ := Kd.R_slice (S4.get 0 rfl).1
        have H4 := Lib.hid S4
        clear S4 hj hjm hx hcs had hBw hD hbl
        by_cases hxn : x = n
        · subst hxn
          go_wp2_with fail
          go_roundg (l.length - j)
          case measure => have := HI.out; omega
          case rel =>
            have := HI.out
            have e : but x (l.take (j + 1)) = D := (hsc.out.trans (if_pos (by first | exact rfl | trivial))).trans HD.out
            exact ⟨j + 1, by go_num, by omega, by omega, by rw [e]; omega, by rw [e]; exact H4.out⟩
        · go_wp2_with (at_builtin; go_loud (refine St.wp1 (flInt .u8) rfl _ _ 22 5 (.int .u8 0) 1 rfl Try.underlying22 info5 rfl (by decide) (by decide) H4.out 0 rfl x #[.int .u8 x] rfl rfl rfl (by have := HI.out; omega) ?_))
          intro T A5 c5 w5 h5
          have HT := Lib.hid h5.out.1
          have H5 := Lib.hid h5.out.2
          clear h5 H4 c0
          go_wp2_with fail
          go_roundg (l.length - j)
          case measure => have := HI.out; omega
          case rel =>
            have := HI.out
            have e : but n (l.take (j + 1)) = T := by rw [(hsc.out.trans (if_neg (by first | exact hxn | exact not_false))), HD.out]; exact HT.out.symm
            have e2 : T.length = D.length + 1 := by rw [HT.out, List.length_append]; rfl
            exact ⟨j + 1, by go_num, by omega, by omega, by rw [e]; omega, by rw [e]; exact H5.out⟩
      · have hjl' : ¬ (j : Int) < (l.length : Int) := by omega
        have ej : j = l.length := by omega
        subst ej
        rw [List.take_length] at S4 hbl
        obtain ⟨D, hD⟩ : ∃ D, but n l = D := ⟨_, rfl⟩
        rw [hD] at S4 hbl
        have HD := Lib.hid hD
        obtain ⟨A4, c4, rfl⟩ := Kd.R_slice (S4.get 0 rfl).1
        have hD0 : ∀ x ∈ D, 0 ≤ x ∧ x < 256 := fun x hx => HC.out.2.2 x (by rw [← hD] at hx; exact (List.mem_filter.1 hx).1)
        have HD0 := Lib.hid (And.intro hD0 hbl)
        have H4 := Lib.hid S4
        clear S4 hD hD0 hj hjm hbl
        go_wp2_with fail
        refine (owners_st H4.out key (by have := HK.out; omega) l A c (Kd.C_below HC.out.1 (HB.out.trans (H4.out.base.mono HB.out.size))) HC.out.2.2 (by omega)).mono ?_
        rintro e w5 ⟨v5, rfl, S5⟩
        obtain ⟨A5, c5, rfl⟩ := Kd.R_slice (S5.get 1 rfl).1
        have H5 := Lib.hid S5
        have hol := own_len key l
        obtain ⟨o, ho⟩ : ∃ o, own key l = o := ⟨_, rfl⟩
        have HO := Lib.hid ho
        rw [ho] at H5 hol ⊢
        clear S5 H4 ho
        go_wp2_with fail
        refine (owners_st H5.out key (by have := HK.out; omega) D A4 c4 (Kd.R_reads' (H5.out.get 0 rfl).1).2.2 HD0.out.1 (by have := HD0.out.2; omega)).mono ?_
        rintro e w6 ⟨v6, rfl, S6⟩
        obtain ⟨A6, c6, rfl⟩ := Kd.R_slice (S6.get 2 rfl).1
        have H6 := Lib.hid S6
        have hol2 := own_len key D
        obtain ⟨o2, ho2⟩ : ∃ o2, own key D = o2 := ⟨_, rfl⟩
        have HO2 := Lib.hid ho2
        rw [ho2] at H6 hol2 ⊢
        clear S6 H5 ho2
        go_wp2_with fail
        refine (owns_c key (by have := HK.out; omega) l A c w6 (Kd.C_below HC.out.1 (HB.out.trans (H6.out.base.mono HB.out.size))) HC.out.2.2 (by omega) n).mono ?_
        rintro e w7 ⟨rfl, b7⟩
        have H7 := Lib.hid (H6.out.below b7)
        clear H6 b7
        rw [HO.out]
        by_cases hno : n ∈ o
        · have e : decide (n ∈ o) = true := decide_eq_true hno
          rw [e]
          clear e
          go_wp2_with fail
          go_loopg [52] (o.length + 1) (fun m v52 wx => ∃ j : Nat, v52 = .int .i64 j ∧ j ≤ o.length ∧ o.length - j < m ∧ St (fun _ => False) w2 wx [slc (Kd.int .u8) 5 (.slice A4 D.length c4) D, slc (Kd.int .u8) 5 (.slice A5 o.length c5) o])
          case atStart => exact ⟨0, rfl, by omega, by omega, H7.out.drop 2⟩
          case round =>
            clear H7
            obtain ⟨j, rfl, hj, hjm, S8⟩ := hrel
            by_cases hjl : j < o.length
            · have hjl2 : (j : Int) < (o.length : Int) := by omega
              have hj0 : (0 : Int) ≤ (j : Int) := by omega
              obtain ⟨x, hx⟩ : ∃ x, o[j]? = some x := ⟨_, List.getElem?_eq_getElem hjl⟩
              obtain ⟨gO, cO, hv, hgO, hcO⟩ := slc_form (S8.get 1 rfl) (by omega)
              injection hv with hv1 hvl hv2
              subst hv1; subst hv2
              have a0 : wr.cell? ⟨gO, j, none⟩ = some (.int .u8 x) := slc_int (S8.get 1 rfl) hx
              have HX := Lib.hid (List.mem_of_getElem? hx)
              have H8 := Lib.hid S8
              have HI := Lib.hid (And.intro hj hjm)
              clear hvl hx hgO hcO S8 hj hjm
              by_cases hxn : x = n
              · subst hxn
                go_wp2_with fail
                go_roundg (o.length - j)
                case measure => have := HI.out; omega
                case rel => have := HI.out; exact ⟨j + 1, by go_num, by omega, by omega, H8.out⟩
              · have HM := Lib.hid (own_less_stays (by rw [HO.out]; exact HX.out : x ∈ own key l) hxn)
                go_wp2_with fail
                refine (owns_c key (by have := HK.out; omega) D A4 c4 wr (Kd.R_reads' (H8.out.get 0 rfl).1).2.2 HD0.out.1 (by have := HD0.out.2; omega) x).mono ?_
                rw [decide_eq_true (by have := HM.out; rw [HD.out] at this; exact this)]
                rintro e w9 ⟨rfl, b9⟩
                have H9 := Lib.hid (H8.out.below b9)
                clear H8 b9 a0
                go_wp2_with fail
                go_roundg (o.length - j)
                case measure => have := HI.out; omega
                case rel => have := HI.out; exact ⟨j + 1, by go_num, by omega, by omega, H9.out⟩
            · have hjl2 : ¬ (j : Int) < (o.length : Int) := by omega
              have H8 := Lib.hid S8
              clear S8 hj hjm
              go_wp2_with fail
              refine (fixed_c wr).mono ?_
              rintro e w9 ⟨rfl, b9⟩
              have H9 := Lib.hid (H8.out.below b9)
              clear H8 b9
              go_wp2_with fail
              refine (owns_c key (by have := HK.out; omega) D A4 c4 w9 (Kd.R_reads' (H9.out.get 0 rfl).1).2.2 HD0.out.1 (by have := HD0.out.2; omega) n).mono ?_
              rw [decide_eq_false (by rw [← HD.out]; exact own_less_gone key l n)]
              rintro e w10 ⟨rfl, b10⟩
              have H10 := Lib.hid (H9.out.below b10).base
              clear H9 b10
              go_wp2_with fail
              go_ret
              exact ⟨rfl, HB.out.trans (H10.out.mono HB.out.size)⟩
        · have e : decide (n ∈ o) = false := decide_eq_false hno
          rw [e]
          clear e
          have hoo : o = o2 := by
            rw [← HO.out, ← HO2.out, ← HD.out]
            exact own_less_same (by rw [HO.out]; exact hno)
          subst hoo
          go_wp2_with fail
          refine (fixed_c w7).mono ?_
          rintro e w8 ⟨rfl, b8⟩
          have H8 := Lib.hid (H7.out.below b8)
          clear H7 b8
          go_wp2_with fail
          have r1 := Kd.R_reads' (H8.out.get 1 rfl).1
          have r2 := Kd.R_reads' (H8.out.get 2 rfl).1
          refine (same_c o o A5 A6 c5 c6 w8 r1.2.2 r1.2.1 r2.2.2 r2.2.1 (by omega)).mono ?_
          rw [decide_eq_true rfl]
          clear r1 r2
          rintro e w9 ⟨rfl, d9⟩
          have H9 := Lib.hid (H8.out.below d9.below).base
          clear H8 d9
          go_wp2_with fail
          go_ret
          exact ⟨rfl, HB.out.trans (H9.out.mono HB.out.size)⟩
end Go.Proofs.Yticbobhkijpbkaa
