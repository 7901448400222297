/- HintNil. -/
import Derived.Test.YtmpodcefngpnkaaHM
import Derived.Test.YtmpodcefngpnkaaHV
namespace Go.Proofs.Ytmpodcefngpnkaa
open Go.RowKit Go.Tat Go.Proofs.YtmpodcefngpnkaaW.PrintWords PHintPlays
def nlR : Rc := ⟨⟨#[107]⟩, ⟨0, 0, 0⟩, 2, 0, 0, ⟨#[]⟩⟩
theorem nl_a : addP 3 [] nlR = ([⟨nlR, 0⟩], 0) := by kernel_rfl
theorem nl_1 {w W : World} {g z : Nat} {S : Nat → Prop} {cs : Array Value} (h : St (fun _ => False) w W [blk z cs 35, hO g S 3 []]) : Calls Try.prog 12 #[.pointer (some ⟨g, 0, none⟩), .agg #[.string ⟨#[107]⟩, .int .u64 0, .int .u32 0, .int .u8 0, .int .u8 2, .int .u32 0, .int .u64 0, .string ⟨#[]⟩]] W fun e w' => e = .returned (.int .i64 0) ∧ ∃ S, St (fun _ => False) w w' [blk z cs 35, hO g S 3 [⟨nlR, 0⟩]] := by
  have := add_st h 1 rfl List.Pairwise.nil (by decide) nlR (by decide)
  rw [nl_a] at this
  exact this
theorem nil_false (w : World) : Calls Try.prog 9 #[] w fun e w' => e = .returned (.bool true) ∧ Below w.heap.size w w' := fixed_c w
set_option maxRecDepth 100000 in
set_option maxHeartbeats 4000000 in
theorem nil_c (r : Rc) (node : Int) (A : Option Addr) (n c : Nat) (W : World) :
    Calls Try.prog 7 #[.agg (eRc r).toArray, .int .u8 node, .slice A n c] W fun e w' => e = .returned (.bool true) ∧ Below W.heap.size W w' := by
  obtain ⟨rk, ⟨rp, rl, rn⟩, rd, rf, re, rb⟩ := r
  obtain ⟨z, hz⟩ : ∃ z, W.heap.size = z := ⟨_, rfl⟩
  have S1 := (St.nil (fun _ => False) W).new' #[.string rk, .int .u64 rp, .int .u32 rl, .int .u8 rn, .int .u8 rd, .int .u32 rf, .int .u64 re, .string rb] 35 z hz
  have H1 := Lib.hid S1
  have c0 := S1.cell 0 rfl 0
  clear S1
  unfold eRc
  dsimp only
  by_cases h1 : 100 < (n : Int)
  · go_enter Try.func7, Try.ntmps7
    go_wp2_with fail
    generalize World.alloc W _ = w1 at *
    refine (fixed_c _).mono ?_
    rintro e w2 ⟨rfl, b2⟩
    go_wp2_with fail
    go_ret
    exact ⟨rfl, (H1.out.below b2).base⟩
  by_cases h2 : 1000 < (rk.size : Int)
  · go_enter Try.func7, Try.ntmps7
    go_upto_region 2 with fail
    generalize World.alloc W _ = w1 at *
    have d0 : w1.cell? ⟨z, 0, none⟩ = some (.string rk) := c0
    go_wp2_with fail
    refine (fixed_c _).mono ?_
    rintro e w2 ⟨rfl, b2⟩
    go_wp2_with fail
    go_ret
    exact ⟨rfl, (H1.out.below b2).base⟩
  go_enter Try.func7, Try.ntmps7
  go_upto_region 2 with fail
  generalize World.alloc W _ = w1 at *
  have d0 : w1.cell? ⟨z, 0, none⟩ = some (.string rk) := c0
  have HN := Lib.hid (new_st H1.out 3 (by omega))
  clear c0
  go_wp2_with fail
  refine HN.out.mono ?_
  rintro e w2 ⟨g, S, rfl, S2⟩
  have H2 := Lib.hid (show St (fun _ => False) W w2 [blk z _ 35, hO g S 3 []] from S2)
  clear S2 HN H1 d0 h1 h2
  go_wp2_with fail
  refine (nl_1 H2.out).mono ?_
  rintro e w3 ⟨rfl, S3, T3⟩
  have H3 := Lib.hid T3
  have HA := Lib.hid (all_st T3 1 rfl (by decide))
  clear T3 H2
  go_wp2_with fail
  refine HA.out.mono ?_
  rintro e w4 ⟨v, rfl, S4⟩
  obtain ⟨A4, c4, rfl⟩ := Kd.R_slice (S4.get 2 rfl).1
  have H4 := Lib.hid (show St (fun _ => False) W w4 [blk z _ 35, hO g S3 3 [⟨nlR, 0⟩], slc k52 52 (.slice A4 1 c4) [⟨nlR, 0⟩]] from S4)
  clear S4 HA H3
  go_upto_block 0 with fail
  go_cut [] (fun wx => St (fun _ => False) W wx [blk z #[.string rk, .int .u64 rp, .int .u32 rl, .int .u8 rn, .int .u8 rd, .int .u32 rf, .int .u64 re, .string rb] 35, hO g S3 3 [⟨nlR, 0⟩]])
  case first =>
    go_wp2_with fail
    go_loopg [36] 2 (fun m v36 wx => ∃ (q : Nat) (X : List Hn), v36 = .int .i64 q ∧ q ≤ 1 ∧ 1 - q < m ∧ X.length = 1 ∧ St (fun _ => False) W wx [blk z #[.string rk, .int .u64 rp, .int .u32 rl, .int .u8 rn, .int .u8 rd, .int .u32 rf, .int .u64 re, .string rb] 35, hO g S3 3 [⟨nlR, 0⟩], slc k52 52 (.slice A4 1 c4) X])
    case atStart => exact ⟨0, _, rfl, by omega, by omega, rfl, H4.out⟩
    case round =>
      clear H4
      obtain ⟨q, X, rfl, hq, hqm, hX, S5⟩ := hrel
      have HQ := Lib.hid (And.intro hqm hX)
      rcases (show q = 0 ∨ q = 1 by omega) with rfl | rfl
      · obtain ⟨x, hx⟩ : ∃ x, X[0]? = some x := ⟨_, List.getElem?_eq_getElem (by omega)⟩
        obtain ⟨gb, cb, hv, _, _⟩ := slc_form (S5.get 2 rfl) (by omega)
        rw [hX] at hv
        cases hv
        have f8 : wr.frozen? ⟨gb, 8, none⟩ = false := (S5.elem flHn 2 rfl (i := 0) (c := 8) hx (by decide)).2
        have u8 : wr.cell? ⟨gb, 8, none⟩ = some (.int .u64 x.f1) := (S5.elem flHn 2 rfl (i := 0) (c := 8) hx (by decide)).1
        have S6 := S5.put flHn 2 rfl (i := 0) (c := 8) (y := { x with f1 := 7 }) (v := .int .u64 7) hx (by decide) rfl
        have H6 := Lib.hid (show St (fun _ => False) W (wr.setCell ⟨gb, 8, none⟩ (.int .u64 7)) [blk z #[.string rk, .int .u64 rp, .int .u32 rl, .int .u8 rn, .int .u8 rd, .int .u32 rf, .int .u64 re, .string rb] 35, hO g S3 3 [⟨nlR, 0⟩], slc k52 52 (.slice (some ⟨gb, 0, none⟩) 1 c4) (X.set 0 { x with f1 := 7 })] from S6)
        clear S5 S6 hx hq hqm hX
        go_wp2_with fail
        go_roundg 1
        case measure => have := HQ.out.1; omega
        case rel => exact ⟨1, _, rfl, by omega, by omega, by rw [List.length_set]; exact HQ.out.2, H6.out⟩
      · have H5 := Lib.hid (S5.drop 2)
        clear S5 hq hqm hX
        go_wp2_with fail
        go_meet
        exact H5.out
  case rest =>
    have H5 := Lib.hid hcut
    clear H4
    rename_i w5
    have HA := Lib.hid (all_st hcut 1 rfl (by decide))
    clear hcut
    go_wp2_with fail
    refine HA.out.mono ?_
    rintro e w6 ⟨v, rfl, S6⟩
    obtain ⟨A6, c6, rfl⟩ := Kd.R_slice (S6.get 2 rfl).1
    have H6 := Lib.hid S6
    clear S6 HA H5
    go_wp2_with fail
    refine (fixed_c _).mono ?_
    rintro e w7 ⟨rfl, b7⟩
    have S7 := H6.out.below b7
    obtain ⟨gb, cb, hv, _, _⟩ := slc_form (S7.get 2 rfl) (by decide)
    cases hv
    have u8 : w7.cell? ⟨gb, 8, none⟩ = some (.int .u64 0) := (S7.elem flHn 2 rfl (i := 0) (c := 8) rfl (by decide)).1
    have d0 : w7.cell? ⟨z, 0, none⟩ = some (.string rk) := S7.cell 0 rfl 0
    have d1 : w7.cell? ⟨z, 1, none⟩ = some (.int .u64 rp) := S7.cell 0 rfl 1
    have d2 : w7.cell? ⟨z, 2, none⟩ = some (.int .u32 rl) := S7.cell 0 rfl 2
    have d3 : w7.cell? ⟨z, 3, none⟩ = some (.int .u8 rn) := S7.cell 0 rfl 3
    have d4 : w7.cell? ⟨z, 4, none⟩ = some (.int .u8 rd) := S7.cell 0 rfl 4
    have d5 : w7.cell? ⟨z, 5, none⟩ = some (.int .u32 rf) := S7.cell 0 rfl 5
    have d6 : w7.cell? ⟨z, 6, none⟩ = some (.int .u64 re) := S7.cell 0 rfl 6
    have d7 : w7.cell? ⟨z, 7, none⟩ = some (.string rb) := S7.cell 0 rfl 7
    have H7 := Lib.hid S7
    clear S7 H6 b7
    have HAd := Lib.hid (add_nilarg ⟨rk, ⟨rp, rl, rn⟩, rd, rf, re, rb⟩ w7)
    unfold eRc at HAd
    dsimp only at HAd
    go_wp2_with fail
    refine HAd.out.mono ?_
    rintro e w8 ⟨rfl, b8⟩
    have S8 := H7.out.below b8
    have d0 : w8.cell? ⟨z, 0, none⟩ = some (.string rk) := S8.cell 0 rfl 0
    have d1 : w8.cell? ⟨z, 1, none⟩ = some (.int .u64 rp) := S8.cell 0 rfl 1
    have d2 : w8.cell? ⟨z, 2, none⟩ = some (.int .u32 rl) := S8.cell 0 rfl 2
    have d3 : w8.cell? ⟨z, 3, none⟩ = some (.int .u8 rn) := S8.cell 0 rfl 3
    have H8 := Lib.hid S8
    clear S8 HAd b8 H7
    have HAc := Lib.hid (ack_nil rk ⟨rp, rl, rn⟩ node w8)
    unfold eStp at HAc
    dsimp only at HAc
    go_wp2_with fail
    refine HAc.out.mono ?_
    rintro e w9 ⟨rfl, b9⟩
    have H9 := Lib.hid (H8.out.below b9)
    clear HAc b9 H8
    go_wp2_with fail
    refine (missing_nil _ _ _ _).mono ?_
    rintro e w10 ⟨rfl, rfl⟩
    go_wp2_with fail
    refine (settle_nil _ _ _ _).mono ?_
    rintro e w11 ⟨rfl, b11⟩
    have H11 := Lib.hid (H9.out.below b11)
    clear b11 H9
    go_wp2_with fail
    refine (all_nil _).mono ?_
    rintro e w12 ⟨rfl, rfl⟩
    go_wp2_with fail
    refine (len_nil _).mono ?_
    rintro e w13 ⟨rfl, rfl⟩
    go_wp2_with fail
    go_ret
    exact ⟨rfl, H11.out.base⟩
theorem nil_row (a0 : Rc) (cs : List Value) (node : Int) (l : List Int) (A : Option Addr) (c : Nat) (W : World) (hK : k35.K W a0 cs) :
    Calls Try.prog 7 #[.agg cs.toArray, .int .u8 node, .slice A l.length c] W fun e w' => e = .returned (.bool true) ∧ Below W.heap.size W w' := by
  rw [flRc.K.1 hK]
  exact nil_c a0 node A l.length c W
end Go.Proofs.Ytmpodcefngpnkaa
