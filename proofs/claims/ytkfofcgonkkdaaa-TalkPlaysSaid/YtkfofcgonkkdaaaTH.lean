import Derived.Test.YtkfofcgonkkdaaaTG
namespace Go.Proofs.Ytkfofcgonkkdaaa
open Go.RowKit Go.Tat Go.Proofs.YtkfofcgonkkdaaaW.PrintWords PTalkPlays
theorem start_I (n k : Int) : TkI ⟨[], n, k, 0⟩ := ⟨List.Pairwise.nil, by simp, by simp⟩
def tk0 : Tk := addF (addF ⟨[], 2, 1, 0⟩ ⟨5, ⟨0, 0⟩⟩) ⟨7, ⟨0, 0⟩⟩
def tk : Nat → Tk
  | 0 => tk0
  | j + 1 => takeD (tk j)
def ds : List Int := [7, 5, 7, 5]
theorem tk_I : ∀ j, TkI (tk j)
  | 0 => addF_I (addF_I (start_I 2 1) _ (by decide)) _ (by decide)
  | j + 1 => takeD_I (tk_I j)
theorem tk_times : ∀ j, (tk j).times = 2 ∧ (tk j).most = 1
  | 0 => ⟨rfl, rfl⟩
  | j + 1 => tk_times j
theorem tk_says : ∀ j < 4, (tk j).pieces.length ≤ 2 ∧ ∃ d, ds[j]? = some d ∧ takeL (tk j) = [⟨d, ⟨0, 0⟩⟩] := by
  intro j hj
  rcases (by omega : j = 0 ∨ j = 1 ∨ j = 2 ∨ j = 3) with rfl | rfl | rfl | rfl
  · exact ⟨by decide, 7, rfl, by rfl⟩
  · exact ⟨by decide, 5, rfl, by rfl⟩
  · exact ⟨by decide, 7, rfl, by rfl⟩
  · exact ⟨by decide, 5, rfl, by rfl⟩
theorem tk_end : (tk 4).pieces = [] ∧ takeL (tk 4) = [] := ⟨by rfl, by rfl⟩
theorem lit_at (j : Nat) (d : Int) (h : ds[j]? = some d) : (#[.int .u8 7, .int .u8 5, .int .u8 7, .int .u8 5] : Array Value)[j]? = some (.int .u8 d) := by
  have e : (#[.int .u8 7, .int .u8 5, .int .u8 7, .int .u8 5] : Array Value) = (ds.map (Value.int .u8)).toArray := rfl
  rw [e, List.getElem?_toArray, List.getElem?_map, h]
  rfl
set_option maxRecDepth 100000 in
set_option maxHeartbeats 4000000 in
theorem fixed_c (w : World) : Calls Try.prog 8 #[] w fun e w' => e = .returned (.bool true) ∧ Below w.heap.size w w' := by
  have HN := Lib.hid (new_st (St.nil (fun _ => False) w) 2 1 (by omega) (by omega))
  obtain ⟨W, hW⟩ : ∃ W, W = w := ⟨_, rfl⟩
  go_enter Try.func8, Try.ntmps8
  go_wp2_with fail
  refine HN.out.mono ?_
  rintro e w1 ⟨g, S, rfl, S1⟩
  have H1 := Lib.hid S1
  clear S1 HN
  go_wp2_with fail
  refine (add_st H1.out 0 rfl ⟨5, ⟨0, 0⟩⟩ (by decide) (by decide) (by decide) (by decide)).mono ?_
  rintro e w2 ⟨rfl, S', S2⟩
  have H2 := Lib.hid S2
  clear S2 H1
  go_wp2_with fail
  refine (add_st H2.out 0 rfl ⟨7, ⟨0, 0⟩⟩ (by decide) (by decide) (by decide) (by decide)).mono ?_
  rintro e w3 ⟨rfl, S'', S3⟩
  have S3' : St (fun _ => False) w w3 [tO g S'' (tk 0)] := S3
  have H3 := Lib.hid S3'
  clear S3 S3' H2
  obtain ⟨z, hz⟩ : ∃ z, w3.heap.size = z := ⟨_, rfl⟩
  have S4 := H3.out.new' #[.int .u8 7, .int .u8 5, .int .u8 7, .int .u8 5] 5 z hz
  have H4 := Lib.hid S4
  clear S4 H3
  go_wp2_with fail
  generalize w3.alloc _ = w4 at *
  clear hz
  go_loopg [24] 5 (fun q v24 wx => ∃ (j : Nat) (S : Nat → Prop), v24 = .int .i64 j ∧ j ≤ 4 ∧ 4 - j < q ∧ St (fun _ => False) w wx [tO g S (tk j), blk z #[.int .u8 7, .int .u8 5, .int .u8 7, .int .u8 5] 5])
  case atStart => exact ⟨0, _, rfl, by omega, by omega, H4.out⟩
  case round =>
    clear H4
    obtain ⟨j, S5, rfl, hj, hq, S6⟩ := hrel
    by_cases hjm : j < 4
    · obtain ⟨hlen, d, hd, hL⟩ := tk_says j hjm
      have hjm' : (j : Int) < 4 := by omega
      have hj0 : (0 : Int) ≤ (j : Int) := by omega
      have x0 : wr.cell? ⟨z, j, none⟩ = some (.int .u8 d) := (S6.cell 1 rfl j).trans (lit_at j d hd)
      have H6 := Lib.hid S6
      have HL := Lib.hid (And.intro hL (And.intro hj (And.intro hq hjm)))
      have HT := Lib.hid (take_d S6 0 rfl (tk_I j) (by omega) (by rw [(tk_times j).2]; omega) (by rw [(tk_times j).1]; omega))
      clear S6 hL hj hq hjm hd hlen
      go_wp2_with fail
      refine HT.out.mono ?_
      rintro e w7 ⟨v', S7, rfl, S8⟩
      rw [HL.out.1] at S8
      obtain ⟨gb, cb, rfl, hgb, hcb⟩ := slc_form (S8.get 2 rfl) (by simp)
      have e0 : w7.cell? ⟨gb, 0, none⟩ = some (.int .u8 d) := (S8.elem fl33 2 rfl (i := 0) (c := 0) rfl (by decide)).1
      have H8 := Lib.hid S8
      clear S8 hgb hcb HT x0
      go_wp2_with fail
      go_roundg (4 - j)
      case measure => have := HL.out; omega
      case rel =>
        obtain ⟨hL, hj, hq, hjm⟩ := HL.out
        exact ⟨j + 1, S7, by go_num, by omega, by omega, H8.out.drop 2⟩
    · have ej : j = 4 := by omega
      subst ej
      obtain ⟨hP, hL⟩ := tk_end
      have HT := Lib.hid (take_d S6 0 rfl (tk_I 4) (by rw [hP]; decide) (by rw [(tk_times 4).2]; omega) (by rw [(tk_times 4).1]; omega))
      clear S6 hj hq hjm
      go_wp2_with fail
      refine HT.out.mono ?_
      rintro e w7 ⟨v', S7, rfl, S8⟩
      rw [hL] at S8
      obtain ⟨A8, c8, rfl⟩ := Kd.R_slice (S8.get 2 rfl).1
      have hPe : (takeD (tk 4)).pieces = [] := by rfl
      have HLn := Lib.hid fun Q h => len_st S8 0 rfl (Q := Q) h
      have H8 := Lib.hid S8
      clear S8 HT
      go_wp2_with fail
      refine HLn.out _ ?_
      intro w8 b8
      have H9 := Lib.hid (H8.out.below b8)
      rw [hPe]
      clear H8 HLn b8
      go_wp2_with fail
      go_ret
      exact ⟨rfl, H9.out.base⟩
end Go.Proofs.Ytkfofcgonkkdaaa
