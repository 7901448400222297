import Derived.Test.YthkaahpaechljaaVI
namespace Go.Proofs.Ythkaahpaechljaa
open Go.RowKit Go.Tat Go.Proofs.YthkaahpaechljaaW.PrintWords PWheelPlays
theorem wrap64_succ {i m : Nat} (h : i < m) (hm : m < 4611686018427387904) : wrap64 ((i : Int) + 1) = ((i + 1 : Nat) : Int) := by unfold wrap64; omega
theorem rdI (l : List Int) (i : Nat) (h : i < l.length) : rd l (i : Int) = l[i] := by
  unfold rd
  simp [h]
theorem same_l (l : List Int) (hl : l.length ≤ 1000000) : ∀ d i k, i + d = l.length → d < k → tattlerref11_Same.l0 k l l (l.length : Int) (i : Int) = some true
  | 0, i, k + 1, h, _ => by
    have h1 : ¬ (i : Int) < (l.length : Int) := by omega
    rw [tattlerref11_Same.l0, if_neg h1]
  | d + 1, i, k + 1, h, hk => by
    have h1 : (i : Int) < (l.length : Int) := by omega
    have h2 : (0 : Int) ≤ (i : Int) := by omega
    rw [tattlerref11_Same.l0, if_pos h1, if_pos h2, if_pos h1, if_pos h1, if_pos rfl, wrap64_succ (m := l.length) (by omega) (by omega)]
    exact same_l l hl d (i + 1) k (by omega) (by omega)
theorem same_c (l : List Int) (hl : l.length ≤ 1000000) (A B : Option Addr) (c c' : Nat) (w : World) (hA : (Kd.int .i64).C w A l.length l) (hc : l.length ≤ c) (hB : (Kd.int .i64).C w B l.length l) (hc' : l.length ≤ c') : Calls Try.prog 12 #[.slice A l.length c, .slice B l.length c'] w fun e w' => e = .returned (.bool true) ∧ Below w.heap.size w w' := by
  refine (tattlerref11_Same.calls (l.length + 1) A c l B c' l true w hA hc hB hc' ?_).mono ?_
  · unfold tattlerref11_Same.f
    rw [if_pos rfl]
    exact same_l l hl l.length 0 _ (by omega) (by omega)
  · rintro e w' ⟨rfl, d⟩
    exact ⟨rfl, d.below⟩
set_option maxRecDepth 100000 in
set_option maxHeartbeats 4000000 in
theorem fixed_c (w : World) : Calls Try.prog 10 #[] w fun e w' => e = .returned (.bool true) ∧ Below w.heap.size w w' := by
  have h0 := Lib.hid (St.nil (fun _ => False) w)
  go_enter Try.func10, Try.ntmps10
  go_wp2_with fail
  refine (new_st h0.out).mono ?_
  rintro e w1 ⟨g, S1, rfl, H1⟩
  have H1 := Lib.hid H1
  go_wp2_with fail
  refine (add_st H1.out 0 rfl 1 70 (by decide) (by decide) (by decide)).mono ?_
  rintro e w2 ⟨rfl, S2, H2⟩
  have H2 := Lib.hid H2
  clear H1
  go_wp2_with fail
  refine (add_st H2.out 0 rfl 2 6 (by decide) (by decide) (by decide)).mono ?_
  rintro e w3 ⟨rfl, S3, H3⟩
  have H3 := Lib.hid H3
  clear H2
  go_wp2_with fail
  refine (add_st H3.out 0 rfl 1 8 (by decide) (by decide) (by decide)).mono ?_
  rintro e w4 ⟨rfl, S4, H4⟩
  have em : addM (addM (addM [] 1 70) 2 6) 1 8 = [⟨2, 6⟩, ⟨1, 8⟩] := rfl
  have H4 := Lib.hid (show St (fun _ => False) w w4 [wO g S4 [⟨2, 6⟩, ⟨1, 8⟩]] from em ▸ H4)
  clear H3 em
  go_wp2_with fail
  refine (due_st H4.out 0 rfl 7 (by decide)).mono ?_
  rintro e w5 ⟨v5, ys, S5, rfl, hp, _, H5⟩
  have e1 : ([⟨2, 6⟩, ⟨1, 8⟩] : List S56).filter (dueB 7) = [⟨2, 6⟩] := rfl
  have e2 : ([⟨2, 6⟩, ⟨1, 8⟩] : List S56).filter (fun t => !dueB 7 t) = [⟨1, 8⟩] := rfl
  rw [e1, List.perm_singleton] at hp
  subst hp
  have H5 := Lib.hid (show St (fun _ => False) w w5 [wO g S5 [⟨1, 8⟩], slc (Kd.int .i64) 3 v5 [2]] from e2 ▸ H5)
  obtain ⟨A5, c5, rfl⟩ := Kd.R_slice (H5.out.get 1 rfl).1
  clear H4 e1 e2
  go_wp2_with fail
  have H6 := Lib.hid (H5.out.new' #[.int .i64 2] 3 w5.heap.size rfl)
  have r5 := Kd.R_reads' (H6.out.get 1 rfl).1
  have r6 := Kd.R_reads' (lit_slc (flInt .i64) (H6.out.get 2 rfl) (xs := [2]) rfl (by decide)).1
  refine (same_c [2] (by decide) A5 _ c5 1 _ r5.2.2 r5.2.1 r6.2.2 (by decide)).mono ?_
  clear r5 r6
  rintro e w7 ⟨rfl, b7⟩
  have H7 := Lib.hid (((H6.out.below b7).drop 2).drop 1)
  clear b7 H6 H5
  go_wp2_with fail
  refine (due_st H7.out 0 rfl 8 (by decide)).mono ?_
  rintro e w8 ⟨v8, ys, S8, rfl, hp, _, H8⟩
  have e1 : ([⟨1, 8⟩] : List S56).filter (dueB 8) = [⟨1, 8⟩] := rfl
  have e2 : ([⟨1, 8⟩] : List S56).filter (fun t => !dueB 8 t) = [] := rfl
  rw [e1, List.perm_singleton] at hp
  subst hp
  have H8 := Lib.hid (show St (fun _ => False) w w8 [wO g S8 [], slc (Kd.int .i64) 3 v8 [1]] from e2 ▸ H8)
  obtain ⟨A8, c8, rfl⟩ := Kd.R_slice (H8.out.get 1 rfl).1
  clear H7 e1 e2
  go_wp2_with fail
  have H9 := Lib.hid (H8.out.new' #[.int .i64 1] 3 w8.heap.size rfl)
  have r5 := Kd.R_reads' (H9.out.get 1 rfl).1
  have r6 := Kd.R_reads' (lit_slc (flInt .i64) (H9.out.get 2 rfl) (xs := [1]) rfl (by decide)).1
  refine (same_c [1] (by decide) A8 _ c8 1 _ r5.2.2 r5.2.1 r6.2.2 (by decide)).mono ?_
  clear r5 r6
  rintro e w10 ⟨rfl, b10⟩
  have H10 := Lib.hid (((H9.out.below b10).drop 2).drop 1)
  clear b10 H9 H8
  go_wp2_with fail
  refine (due_st H10.out 0 rfl 100 (by decide)).mono ?_
  rintro e w11 ⟨v11, ys, S11, rfl, hp, _, H11⟩
  have hp' : ys = [] := List.Perm.eq_nil hp
  subst hp'
  have H11 := Lib.hid H11
  obtain ⟨A11, c11, rfl⟩ := Kd.R_slice (H11.out.get 1 rfl).1
  clear H10 hp
  go_wp2_with fail
  go_ret
  exact ⟨rfl, H11.out.base⟩
end Go.Proofs.Ythkaahpaechljaa
