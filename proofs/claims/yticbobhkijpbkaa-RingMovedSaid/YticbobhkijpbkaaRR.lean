import Derived.Test.YticbobhkijpbkaaRQ
namespace Go.Proofs.Yticbobhkijpbkaa
open Go.RowKit Go.Tat Go.Proofs.YticbobhkijpbkaaW.PrintWords PRingOwners
def movedPost (w : World) (r : List ByteArray) (e : Ending) (w' : World) : Prop := ∃ v, e = .returned v ∧ St (fun _ => False) w w' [slc Kd.string 9 v r]
set_option maxRecDepth 100000 in
set_option maxHeartbeats 4000000 in
theorem moved_c (keys : List ByteArray) (b a : List Int) (Ak Ab Aa : Option Addr) (ck cb ca : Nat) (W : World) (hK : Kd.string.C W Ak keys.length keys) (hB : (Kd.int .u8).C W Ab b.length b) (hA : (Kd.int .u8).C W Aa a.length a)
    (hk : keys.length ≤ 50) (hs : ∀ s ∈ keys, s.size ≤ 1000000 ∧ b.length ≤ 1000000 ∧ a.length ≤ 1000000) (hb0 : ∀ x ∈ b, 0 ≤ x ∧ x < 256) (ha0 : ∀ x ∈ a, 0 ≤ x ∧ x < 256) :
    Calls Try.prog 19 #[.slice Ak keys.length ck, .slice Ab b.length cb, .slice Aa a.length ca] W (movedPost W (movedL keys b a)) := by
  have HC := Lib.hid (And.intro hK (And.intro hB (And.intro hA (And.intro hs (And.intro hb0 ha0)))))
  clear hK hB hA hs hb0 ha0
  go_enter Try.func19, Try.ntmps19
  go_wp2_with fail
  have HS := Lib.hid ((St.nil (fun _ => False) W).nils Kd.string 9)
  go_loopg [7, 14] (keys.length + 1) (fun m v7 v14 wx => ∃ j : Nat, v14 = .int .i64 j ∧ j ≤ keys.length ∧ keys.length - j < m ∧ (movedL (keys.take j) b a).length ≤ j ∧ St (fun _ => False) W wx [slc Kd.string 9 v7 (movedL (keys.take j) b a)])
  case atStart => exact ⟨0, rfl, by omega, by omega, Nat.le_refl _, HS.out⟩
  case round =>
    clear HS
    obtain ⟨j, rfl, hj, hjm, hml, S4⟩ := hrel
    by_cases hjl : j < keys.length
    · have hjl' : (j : Int) < (keys.length : Int) := by omega
      have hj0 : (0 : Int) ≤ (j : Int) := by omega
      obtain ⟨x, hx⟩ : ∃ x, keys[j]? = some x := ⟨_, List.getElem?_eq_getElem hjl⟩
      have hx0 := Lib.hid (HC.out.2.2.2.1 x (List.mem_of_getElem? hx))
      obtain ⟨ad, bb, o', cs, rfl, had, hb, hK, hcs⟩ := C_at HC.out.1 hx (by decide)
      obtain rfl : cs = [.string x] := hK
      have hBw := S4.base
      have c0 : wr.cell? ⟨bb, o', none⟩ = some (.string x) := (hBw.cell (p := ⟨bb, o', none⟩) hb).trans (hcs 0 _ rfl)
      have had' : ad.add j = ⟨bb, o', none⟩ := by
        have e : j * Kd.string.sz = j := Nat.mul_one j
        rw [e] at had
        exact had
      have hsc := Lib.hid (movedL_succ (b := b) (a := a) hx)
      obtain ⟨D, hD⟩ : ∃ D, movedL (keys.take j) b a = D := ⟨_, rfl⟩
      rw [hD] at S4 hml
      have HD := Lib.hid hD
      have HI := Lib.hid (And.intro hj (And.intro hjm hml))
      obtain ⟨A4, c4, rfl⟩ := Kd.R_slice (S4.get 0 rfl).1
      have H4 := Lib.hid S4
      clear S4 hj hjm hx hcs had hBw hD hml
      go_wp2_with fail
      clear c0 had'
      refine (owners_st H4.out x hx0.out.1 b Ab cb (Kd.C_below HC.out.2.1 H4.out.base) HC.out.2.2.2.2.1 hx0.out.2.1).mono ?_
      rintro e w5 ⟨v5, rfl, S5⟩
      obtain ⟨A5, c5, rfl⟩ := Kd.R_slice (S5.get 1 rfl).1
      have hol := own_len x b
      obtain ⟨o, ho⟩ : ∃ o, own x b = o := ⟨_, rfl⟩
      have HO := Lib.hid ho
      rw [ho] at S5 hol ⊢
      have H5 := Lib.hid S5
      clear S5 H4 ho
      go_wp2_with fail
      refine (owners_st H5.out x hx0.out.1 a Aa ca (Kd.C_below HC.out.2.2.1 H5.out.base) HC.out.2.2.2.2.2 hx0.out.2.2).mono ?_
      rintro e w6 ⟨v6, rfl, S6⟩
      obtain ⟨A6, c6, rfl⟩ := Kd.R_slice (S6.get 2 rfl).1
      have hol2 := own_len x a
      obtain ⟨o2, ho2⟩ : ∃ o2, own x a = o2 := ⟨_, rfl⟩
      have HO2 := Lib.hid ho2
      rw [ho2] at S6 hol2 ⊢
      have H6 := Lib.hid S6
      clear S6 H5 ho2
      go_wp2_with fail
      refine (sort_c2 _ o hol w6 (H6.out.get 1 rfl)).mono ?_
      rintro e w7 ⟨rfl, hs7, m7⟩
      have S7 := H6.out.upd 1 rfl m7 (a' := slc (Kd.int .u8) 5 (.slice A5 o.length c5) (sort2 o)) hs7 (fun k hk => .inl hk)
      have H7 := Lib.hid S7
      clear S7 hs7 m7 H6
      go_wp2_with fail
      refine (sort_c2 _ o2 hol2 w7 (H7.out.get 2 rfl)).mono ?_
      rintro e w8 ⟨rfl, hs8, m8⟩
      have S8 := H7.out.upd 2 rfl m8 (a' := slc (Kd.int .u8) 5 (.slice A6 o2.length c6) (sort2 o2)) hs8 (fun k hk => .inl hk)
      have e1 := sort2_len o
      have e2 := sort2_len o2
      have hmv : moves b a x = !decide (sort2 o = sort2 o2) := by
        unfold moves
        rw [HO.out, HO2.out]
        by_cases h : sort2 o = sort2 o2 <;> simp [h]
      rw [← e1, ← e2] at S8 ⊢
      obtain ⟨s1, hs1⟩ : ∃ s1, sort2 o = s1 := ⟨_, rfl⟩
      obtain ⟨s2, hs2⟩ : ∃ s2, sort2 o2 = s2 := ⟨_, rfl⟩
      rw [hs1, hs2] at S8 hmv ⊢
      have hsl : s1.length ≤ 2 := by rw [← hs1, e1]; exact hol
      have HMV := Lib.hid hmv
      have H8 := Lib.hid S8
      clear S8 hs8 m8 H7 e1 e2 hs1 hs2 hmv hol hol2
      go_wp2_with fail
      have r1 := Kd.R_reads' (H8.out.get 1 rfl).1
      have r2 := Kd.R_reads' (H8.out.get 2 rfl).1
      refine (equal_c s1 s2 A5 A6 c5 c6 w8 r1.2.2 r1.2.1 r2.2.2 r2.2.1 (by omega)).mono ?_
      clear r1 r2
      rintro e w9 ⟨rfl, d9⟩
      have H9 := Lib.hid ((H8.out.below d9.below).sub (M := [slc Kd.string 9 (.slice A4 D.length c4) D]) (by simp))
      clear d9 H8
      by_cases heq : s1 = s2
      · have e : decide (s1 = s2) = true := decide_eq_true heq
        have HE := Lib.hid (HMV.out.trans (by rw [e]; rfl) : moves b a x = false)
        rw [e]
        clear e
        go_wp2_with fail
        go_roundg (keys.length - j)
        case measure => have := HI.out; omega
        case rel =>
          have := HI.out
          have e : movedL (keys.take (j + 1)) b a = D := by rw [hsc.out, HE.out, if_neg (by simp), HD.out]
          exact ⟨j + 1, by go_num, by omega, by omega, by rw [e]; omega, by rw [e]; exact H9.out⟩
      · have e : decide (s1 = s2) = false := decide_eq_false heq
        have HE := Lib.hid (HMV.out.trans (by rw [e]; rfl) : moves b a x = true)
        rw [e]
        clear e
        go_wp2_with (at_builtin; go_loud (refine St.wp1 flStr rfl _ _ 31 9 (.string ⟨#[]⟩) 16 rfl Try.underlying31 info9 rfl (by decide) (by decide) H9.out 0 rfl x #[.string x] rfl rfl rfl (by have := HI.out; omega) ?_))
        intro T A10 c10 w10 h10
        have HT := Lib.hid h10.out.1
        have H10 := Lib.hid h10.out.2
        clear h10 H9
        go_wp2_with fail
        go_roundg (keys.length - j)
        case measure => have := HI.out; omega
        case rel =>
          have := HI.out
          have e : movedL (keys.take (j + 1)) b a = T := by rw [hsc.out, HE.out, if_pos rfl, HD.out]; exact HT.out.symm
          have e2 : T.length = D.length + 1 := by rw [HT.out, List.length_append]; rfl
          exact ⟨j + 1, by go_num, by omega, by omega, by rw [e]; omega, by rw [e]; exact H10.out⟩
    · have hjl' : ¬ (j : Int) < (keys.length : Int) := by omega
      have ej : j = keys.length := by omega
      subst ej
      rw [List.take_length] at S4
      have H4 := Lib.hid S4
      clear S4 hml hj hjm
      go_wp2_with fail
      go_ret
      exact ⟨_, rfl, H4.out⟩
set_option maxRecDepth 100000 in
set_option maxHeartbeats 4000000 in
theorem ringmoved_c (keys : List ByteArray) (b a : List Int) (Ak Ab Aa : Option Addr) (ck cb ca : Nat) (W : World) (hK : Kd.string.C W Ak keys.length keys) (hB : (Kd.int .u8).C W Ab b.length b) (hA : (Kd.int .u8).C W Aa a.length a)
    (hck : keys.length ≤ ck) (hcb : b.length ≤ cb) (hca : a.length ≤ ca) (hb0 : ∀ x ∈ b, 0 ≤ x ∧ x < 256) (ha0 : ∀ x ∈ a, 0 ≤ x ∧ x < 256) :
    Calls Try.prog 8 #[.slice Ak keys.length ck, .slice Ab b.length cb, .slice Aa a.length ca] W fun e w' => e = .returned (.bool true) ∧ Below W.heap.size W w' := by
  have hmx := Kd.C_max hK
  have HC := Lib.hid (And.intro hK (And.intro hB (And.intro hA (And.intro hb0 (And.intro ha0 (And.intro hck (And.intro hcb hca)))))))
  clear hK hB hA hb0 ha0 hck hcb hca
  go_enter Try.func8, Try.ntmps8
  by_cases h50 : (50 : Int) < (keys.length : Int)
  · go_wp2_with fail
    refine (fixed_c W).mono ?_
    rintro e w3 ⟨rfl, b3⟩
    have HB3 := Lib.hid b3
    clear b3
    go_wp2_with fail
    go_ret
    exact ⟨rfl, HB3.out⟩
  have hkl : keys.length ≤ 50 := by omega
  go_wp2_with fail
  go_loopg [15] (keys.length + 1) (fun m v15 wx => ∃ j : Nat, v15 = .int .i64 j ∧ j ≤ keys.length ∧ keys.length - j < m ∧ (∀ s ∈ keys.take j, s.size ≤ 1000000 ∧ b.length ≤ 1000000 ∧ a.length ≤ 1000000) ∧ Below W.heap.size W wx)
  case atStart => exact ⟨0, rfl, by omega, by omega, by simp, Below.refl _ _⟩
  case round =>
    obtain ⟨j, rfl, hj, hjm, hs, hbw⟩ := hrel
    have HI := Lib.hid (And.intro hj (And.intro hjm hs))
    have HB := Lib.hid hbw
    clear hj hjm hs hbw
    by_cases hjl : j < keys.length
    · have hjl' : (j : Int) < (keys.length : Int) := by omega
      have hj0 : (0 : Int) ≤ (j : Int) := by omega
      obtain ⟨x, hx⟩ : ∃ x, keys[j]? = some x := ⟨_, List.getElem?_eq_getElem hjl⟩
      obtain ⟨ad, bb, o', cs, rfl, had, hb, hK, hcs⟩ := C_at HC.out.1 hx (by decide)
      obtain rfl : cs = [.string x] := hK
      have c0 : wr.cell? ⟨bb, o', none⟩ = some (.string x) := (HB.out.cell (p := ⟨bb, o', none⟩) hb).trans (hcs 0 _ rfl)
      have had' : ad.add j = ⟨bb, o', none⟩ := by
        have e : j * Kd.string.sz = j := Nat.mul_one j
        rw [e] at had
        exact had
      have HX := Lib.hid (show keys.take (j + 1) = keys.take j ++ [x] by rw [List.take_add_one, hx]; rfl)
      clear hcs had hx
      have hB1 := Lib.hid (HB.out.alloc HB.out.size (.cells #[.slice Ab b.length cb, .slice Aa a.length ca] 22))
      have HG := Lib.hid (great_c x [b, a] _ 2 _ (C_slice2 (heap_alloc_new wr (.cells #[.slice Ab b.length cb, .slice Aa a.length ca] 22)) HC.out.2.2.2.2.2.2.1 (Kd.C_below HC.out.2.1 hB1.out) HC.out.2.2.2.2.2.2.2 (Kd.C_below HC.out.2.2.1 hB1.out)) (Nat.le_refl 2) (Nat.lt_of_lt_of_le (Nat.lt_succ_self 2) (by decide)))
      go_wp2_with fail
      clear c0 had'
      generalize World.alloc _ _ = w1 at *
      refine HG.out.mono ?_
      rintro e w2 ⟨rfl, dr⟩
      have HB2 := Lib.hid (hB1.out.trans (dr.below.mono hB1.out.size))
      clear HG hB1 dr HB
      cases hg : greatB x [b, a] with
      | true =>
        clear hg
        go_wp2_with fail
        refine (fixed_c w2).mono ?_
        rintro e w3 ⟨rfl, b3⟩
        have HB3 := Lib.hid (HB2.out.trans (b3.mono HB2.out.size))
        clear b3 HB2
        go_wp2_with fail
        go_ret
        exact ⟨rfl, HB3.out⟩
      | false =>
        have hgn : x.size ≤ 1000000 ∧ b.length ≤ 1000000 ∧ a.length ≤ 1000000 := by
          unfold greatB at hg
          rw [Bool.or_eq_false_iff, decide_eq_false_iff_not, List.any_cons, Bool.or_eq_false_iff, decide_eq_false_iff_not, List.any_cons, Bool.or_eq_false_iff, decide_eq_false_iff_not] at hg
          omega
        have HN := Lib.hid hgn
        clear hg hgn
        go_wp2_with fail
        go_roundg (keys.length - j)
        case measure => have := HI.out; omega
        case rel =>
          have := HI.out
          refine ⟨j + 1, by go_num, by omega, by omega, fun s hs => ?_, HB2.out⟩
          rw [HX.out] at hs
          rcases List.mem_append.1 hs with hs | hs
          · exact HI.out.2.2 s hs
          · rw [List.mem_singleton.1 hs]; exact HN.out
    · have hjl' : ¬ (j : Int) < (keys.length : Int) := by omega
      have ej : j = keys.length := by have := HI.out.1; omega
      subst ej
      have HSZ := Lib.hid (show ∀ s ∈ keys, s.size ≤ 1000000 ∧ b.length ≤ 1000000 ∧ a.length ≤ 1000000 by have := HI.out.2.2; rw [List.take_length] at this; exact this)
      clear HI
      go_wp2_with fail
      refine (fixed_c wr).mono ?_
      rintro e w3 ⟨rfl, b3⟩
      have HB3 := Lib.hid (HB.out.trans (b3.mono HB.out.size))
      clear b3 HB
      go_wp2_with fail
      refine (moved_c keys b a Ak Ab Aa ck cb ca w3 (Kd.C_below HC.out.1 HB3.out) (Kd.C_below HC.out.2.1 HB3.out) (Kd.C_below HC.out.2.2.1 HB3.out) hkl HSZ.out HC.out.2.2.2.1 HC.out.2.2.2.2.1).mono ?_
      rintro e w4 ⟨v4, rfl, S4⟩
      obtain ⟨A4, c4, rfl⟩ := Kd.R_slice (S4.get 0 rfl).1
      have HB4 := Lib.hid (HB3.out.trans (S4.base.mono HB3.out.size))
      have H4 := Lib.hid S4
      clear S4 HB3
      go_wp2_with fail
      refine (tattlerref16_Moved.calls 2000600 Ak ck keys Ab cb b Aa ca a _ w4 (Kd.C_below HC.out.1 HB4.out) HC.out.2.2.2.2.2.1 (Kd.C_below HC.out.2.1 HB4.out) HC.out.2.2.2.2.2.2.1 (Kd.C_below HC.out.2.2.1 HB4.out) HC.out.2.2.2.2.2.2.2 (rmoved_is keys b a hkl HSZ.out HC.out.2.2.2.1 HC.out.2.2.2.2.1)).mono ?_
      rintro e w5 ⟨v5, rfl, R5, b5⟩
      obtain ⟨A5, c5, rfl⟩ := Kd.R_slice R5
      have HB5 := Lib.hid (HB4.out.trans (b5.mono HB4.out.size))
      have H5 := H4.out.below b5
      have hr4 := Lib.hid (Kd.R_reads' (H5.get 0 rfl).1)
      have hr5 := Lib.hid (Kd.R_reads' R5)
      have hml : (movedL keys b a).length ≤ 50 := Nat.le_trans (List.length_filter_le _ _) hkl
      obtain ⟨D, hD⟩ : ∃ D, movedL keys b a = D := ⟨_, rfl⟩
      rw [hD] at hr4 hr5 hml ⊢
      clear R5 b5 H5 H4 HB4 hD
      go_wp2_with fail
      refine (tattlerref10_Same.calls (D.length + 1) A4 c4 D A5 c5 D _ w5 hr4.out.2.2 hr4.out.2.1 hr5.out.2.2 hr5.out.2.1 (same10_is D (by omega))).mono ?_
      rintro e w6 ⟨rfl, d6⟩
      have HB6 := Lib.hid (HB5.out.trans (d6.below.mono HB5.out.size))
      clear d6 HB5 hr4 hr5
      have HM := Lib.hid (moved_c keys b b Ak Ab Ab ck cb cb w6 (Kd.C_below HC.out.1 HB6.out) (Kd.C_below HC.out.2.1 HB6.out) (Kd.C_below HC.out.2.1 HB6.out) hkl (fun s hs => ⟨(HSZ.out s hs).1, (HSZ.out s hs).2.1, (HSZ.out s hs).2.1⟩) HC.out.2.2.2.1 HC.out.2.2.2.1)
      rw [movedL_same] at HM
      go_wp2_with fail
      refine HM.out.mono ?_
      rintro e w7 ⟨v7, rfl, S7⟩
      obtain ⟨A7, c7, rfl⟩ := Kd.R_slice (S7.get 0 rfl).1
      have HB7 := Lib.hid (HB6.out.trans (S7.base.mono HB6.out.size))
      clear S7 HM HB6
      go_wp2_with fail
      go_ret
      exact ⟨rfl, HB7.out⟩
theorem Try.cells9 : Try.prog.cellsOf 9 = Kd.string.sz := by kernel_rfl
theorem opens9 : Opens Try.prog 9 Kd.string (fun s => s.size ≤ maxLen) := Opens.string Try.underlying9
theorem moved_row (keys : List ByteArray) (b a : List Int) (Ak Ab Aa : Option Addr) (ck cb ca : Nat) (W : World) (hK : Kd.string.C W Ak keys.length keys) (hB : (Kd.int .u8).C W Ab b.length b) (hA : (Kd.int .u8).C W Aa a.length a)
    (hck : keys.length ≤ ck) (hcb : b.length ≤ cb) (hca : a.length ≤ ca) (hb0 : ∀ x ∈ b, g5 x) (ha0 : ∀ x ∈ a, g5 x) :
    Calls Try.prog 8 #[.slice Ak keys.length ck, .slice Ab b.length cb, .slice Aa a.length ca] W fun e w' => e = .returned (.bool true) ∧ Below W.heap.size W w' :=
  ringmoved_c keys b a Ak Ab Aa ck cb ca W hK hB hA hck hcb hca (fun x hx => u8_wf (hb0 x hx)) (fun x hx => u8_wf (ha0 x hx))
end Go.Proofs.Yticbobhkijpbkaa
