import Derived.Test.YtkfofcgonkkdaaaTH
namespace Go.Proofs.Ytkfofcgonkkdaaa
open Go.RowKit Go.Tat Go.Proofs.YtkfofcgonkkdaaaW.PrintWords PTalkPlays
def one (x : S33) (j c : Int) : Tk := ⟨[⟨x, j, c⟩], 4, 2, c⟩
def none4 (c : Int) : Tk := ⟨[], 4, 2, c⟩
theorem one_I (x : S33) (j c : Int) (h : 0 ≤ j) (h4 : j < 4) : TkI (one x j c) := ⟨List.pairwise_singleton _ _, fun y hy => by rw [List.mem_singleton.1 hy]; exact Int.le_refl _, fun y hy => by rw [List.mem_singleton.1 hy]; exact ⟨h, h4⟩⟩
theorem one_L (x : S33) (j c : Int) : takeL (one x j c) = [x] := rfl
theorem one_D (x : S33) (j c : Int) (h : j + 1 < 4) : takeD (one x j c) = one x (j + 1) c := by
  have h1 : takeD (one x j c) = { one x j c with pieces := [told1 ⟨x, j, c⟩].filter fun x => !decide (4 ≤ x.f1) } := rfl
  have h2 : (!decide ((4 : Int) ≤ (told1 ⟨x, j, c⟩).f1)) = true := by
    have e : (told1 ⟨x, j, c⟩).f1 = j + 1 := rfl
    rw [e, decide_eq_false (by omega)]
    rfl
  rw [h1, List.filter_cons_of_pos (p := fun z : S60 => !decide ((4 : Int) ≤ z.f1)) h2]
  rfl
theorem one_D4 (x : S33) (c : Int) : takeD (one x 3 c) = none4 c := rfl
theorem none_L (c : Int) : takeL (none4 c) = [] ∧ (takeD (none4 c)).pieces = [] := ⟨rfl, rfl⟩
theorem add_one (x : S33) : addF ⟨[], 4, 2, 0⟩ x = one x 0 1 := rfl
theorem add_same (x y : S33) (j : Int) (h : x.f0 = y.f0) : addF (one x j 1) y = one y 0 2 := by
  have h1 : addF (one x j 1) y = { one x j 1 with pieces := ([(⟨x, j, 1⟩ : S60)].filter fun z => !(z.f0.f0 == y.f0)) ++ [⟨y, 0, 1 + 1⟩], came := 1 + 1 } := rfl
  have h2 : ¬ (!((⟨x, j, 1⟩ : S60).f0.f0 == y.f0)) = true := by
    rw [show (⟨x, j, 1⟩ : S60).f0.f0 = y.f0 from h, beq_self_eq_true]
    decide
  rw [h1, List.filter_cons_of_neg (p := fun z : S60 => !(z.f0.f0 == y.f0)) h2]
  rfl
def tw (y : S33) (j : Nat) : Tk := if j < 4 then one y j 2 else none4 2
theorem tw_at (y : S33) (j : Nat) (h : j < 4) : tw y j = one y j 2 := if_pos h
theorem tw_D (y : S33) (j : Nat) (h : j < 4) : takeD (one y j 2) = tw y (j + 1) := by
  by_cases h3 : j = 3
  · subst h3; rfl
  · rw [one_D _ _ _ (by omega), tw_at _ _ (by omega)]
    rfl
theorem tw_4 (y : S33) : tw y 4 = none4 2 := rfl
set_option maxRecDepth 100000 in
set_option maxHeartbeats 4000000 in
theorem again_c (x y : S33) (n : Int) (hx : 0 ≤ x.f0) (hn : 0 ≤ n) (hn2 : n < 256) (w : World) : Calls Try.prog 5 #[.agg (e33 x).toArray, .agg (e33 y).toArray, .int .u8 n] w fun e w' => e = .returned (.bool true) ∧ Below w.heap.size w w' := by
  obtain ⟨xn, xs, xi⟩ := x
  obtain ⟨yn, ys, yi⟩ := y
  have hx : 0 ≤ xn := hx
  unfold e33
  have w1 : IntKind.u8.wrap (xn % 64) = xn % 64 := by rw [IntKind.wrap_u8]; omega
  have hm0 : 0 ≤ xn % 64 := by omega
  have hm1 : xn % 64 < 64 := by omega
  have htm : Int.tmod xn 64 = xn % 64 := Int.tmod_eq_emod_of_nonneg hx
  have hm0 := Lib.hid hm0
  have hm1 := Lib.hid hm1
  go_enter Try.func5, Try.ntmps5
  go_upto_region 1 with fail
  have S0 := ((St.nil (fun _ => False) w).new #[.int .u8 xn, .int .u8 xs, .int .u32 xi] 33)
  have S1 := S0.new #[.int .u8 yn, .int .u8 ys, .int .u32 yi] 33
  rw [show (w.alloc (.cells #[.int .u8 xn, .int .u8 xs, .int .u32 xi] 33)).heap.size = w.heap.size + 1 from by simp] at S1
  have hne := S1.ne 0 1 rfl rfl (by decide)
  generalize World.alloc w _ = w2 at *
  generalize World.alloc w2 _ = w3 at *
  generalize hzx : w.heap.size = zx at *
  generalize hzy : zx + 1 = zy at *
  have x0 : w3.cell? ⟨zx, 0, none⟩ = some (.int .u8 xn) := S1.cell 0 rfl 0
  have xf : w3.frozen? ⟨zx, 0, none⟩ = false := S1.frozen 0 rfl 0
  have S2 := S1.set 0 rfl 0 (.int .u8 (xn % 64))
  have yf : (w3.setCell ⟨zx, 0, none⟩ (.int .u8 (xn % 64))).frozen? ⟨zy, 0, none⟩ = false := S2.frozen 1 rfl 0
  have y0 : (w3.setCell ⟨zx, 0, none⟩ (.int .u8 (xn % 64))).cell? ⟨zy, 0, none⟩ = some (.int .u8 yn) := S2.cell 1 rfl 0
  have yf' : w3.frozen? ⟨zy, 0, none⟩ = false := S1.frozen 1 rfl 0
  have y0' : w3.cell? ⟨zy, 0, none⟩ = some (.int .u8 yn) := S1.cell 1 rfl 0
  have S3 := S2.set 1 rfl 0 (.int .u8 (xn % 64))
  have H3 := Lib.hid S3
  clear S0 S1 S2 S3 hne hzx hzy
  go_upto_region 2 with fail
  clear x0 xf yf y0 yf' y0'
  generalize (World.setCell _ _ _).setCell _ _ = w4 at *
  have x0 : w4.cell? ⟨zx, 0, none⟩ = some (.int .u8 (xn % 64)) := H3.out.cell 0 rfl 0
  have x1 : w4.cell? ⟨zx, 1, none⟩ = some (.int .u8 xs) := H3.out.cell 0 rfl 1
  have x2 : w4.cell? ⟨zx, 2, none⟩ = some (.int .u32 xi) := H3.out.cell 0 rfl 2
  generalize hq : xn % 64 = q at *
  have HN := Lib.hid (new_st H3.out 4 2 (by omega) (by omega))
  go_wp2_with fail
  refine HN.out.mono ?_
  rintro e w5 ⟨g, S, rfl, S5⟩
  clear x0 x1 x2 HN
  have HF := Lib.hid (fixed_c w5)
  have H5 := Lib.hid S5
  clear H3 S5
  go_wp2_with fail
  refine HF.out.mono ?_
  rintro e w6 ⟨rfl, b6⟩
  have S6 := H5.out.below b6
  have x0 : w6.cell? ⟨zx, 0, none⟩ = some (.int .u8 q) := S6.cell 0 rfl 0
  have x1 : w6.cell? ⟨zx, 1, none⟩ = some (.int .u8 xs) := S6.cell 0 rfl 1
  have x2 : w6.cell? ⟨zx, 2, none⟩ = some (.int .u32 xi) := S6.cell 0 rfl 2
  have HA := Lib.hid (add_st S6 2 rfl ⟨q, ⟨xs, xi⟩⟩ hm1.out (by decide) (by decide) (by decide))
  clear H5 S6 b6 HF
  go_wp2_with fail
  refine HA.out.mono ?_
  rintro e w7 ⟨rfl, S7, S8⟩
  have H8 := Lib.hid S8
  clear S8 HA x0 x1 x2
  go_wp2_with fail
  obtain ⟨r, hr⟩ : ∃ r : Nat, n % 4 = r := ⟨(n % 4).toNat, by omega⟩
  have hr4 : r < 4 := by omega
  rw [hr]
  clear hr hn hn2 htm hq
  go_loopg [36] 5 (fun m v wx => ∃ (j : Nat) (S : Nat → Prop), v = .int .i64 j ∧ j ≤ r ∧ r - j < m ∧ St (fun _ => False) w wx [blk zx #[.int .u8 q, .int .u8 xs, .int .u32 xi] 33, blk zy #[.int .u8 q, .int .u8 ys, .int .u32 yi] 33, tO g S (one ⟨q, ⟨xs, xi⟩⟩ j 1)])
  case atStart => exact ⟨0, _, rfl, by omega, by omega, H8.out⟩
  case round =>
    clear H8
    obtain ⟨j, S9, rfl, hj, hq, S10⟩ := hrel
    by_cases hjm : j < r
    · have hjm' : (j : Int) < (r : Int) := by omega
      have HL := Lib.hid (And.intro hj (And.intro hq (And.intro hjm hr4)))
      have HT := Lib.hid (take_d S10 2 rfl (one_I _ j 1 (by omega) (by omega)) (show (1 : Nat) ≤ 1000000 by decide) (show (1 : Int) ≤ 2 ∧ (2 : Int) ≤ 64 by decide) (show (4 : Int) ≤ 64 by decide))
      clear S10 hj hq hjm hr4
      go_wp2_with fail
      refine HT.out.mono ?_
      rintro e w11 ⟨v', S11, rfl, S12⟩
      rw [one_L] at S12
      obtain ⟨gb, cb, rfl, hgb, hcb⟩ := slc_form (S12.get 3 rfl) (by simp)
      have e0 : w11.cell? ⟨gb, 0, none⟩ = some (.int .u8 q) := (S12.elem fl33 3 rfl (i := 0) (c := 0) rfl (by decide)).1
      have e1 : w11.cell? ⟨gb, 1, none⟩ = some (.int .u8 xs) := (S12.elem fl33 3 rfl (i := 0) (c := 1) rfl (by decide)).1
      have e2 : w11.cell? ⟨gb, 2, none⟩ = some (.int .u32 xi) := (S12.elem fl33 3 rfl (i := 0) (c := 2) rfl (by decide)).1
      have x0 : w11.cell? ⟨zx, 0, none⟩ = some (.int .u8 q) := S12.cell 0 rfl 0
      have x1 : w11.cell? ⟨zx, 1, none⟩ = some (.int .u8 xs) := S12.cell 0 rfl 1
      have x2 : w11.cell? ⟨zx, 2, none⟩ = some (.int .u32 xi) := S12.cell 0 rfl 2
      have H12 := Lib.hid S12
      clear S12 hgb hcb HT
      go_upto_region 9 with fail
      go_quiet (fail)
      have H13 := Lib.hid (H12.out.drewN nq)
      clear H12 e0 e1 e2 x0 x1 x2
      generalize w11.drewN nq = w13 at *
      go_wp2_with fail
      go_roundg (r - j)
      case measure => have := HL.out; omega
      case rel =>
        obtain ⟨hj, hq, hjm, hr4⟩ := HL.out
        have e : wrap64 ((j : Int) + 1) = ((j + 1 : Nat) : Int) := by unfold wrap64; omega
        refine ⟨j + 1, S11, by rw [e], by omega, by omega, ?_⟩
        have h := H13.out.drop 3
        rw [one_D _ _ _ (by omega)] at h
        exact h
    · have ej : j = r := by omega
      subst ej
      have y0 : wr.cell? ⟨zy, 0, none⟩ = some (.int .u8 q) := S10.cell 1 rfl 0
      have y1 : wr.cell? ⟨zy, 1, none⟩ = some (.int .u8 ys) := S10.cell 1 rfl 1
      have y2 : wr.cell? ⟨zy, 2, none⟩ = some (.int .u32 yi) := S10.cell 1 rfl 2
      have HA := Lib.hid (add_st S10 2 rfl ⟨q, ⟨ys, yi⟩⟩ hm1.out (show (0 : Int) ≤ 1 by decide) (show (1 : Int) ≤ 1000000 by decide) (show (1 : Nat) ≤ 1000000 by decide))
      rw [add_same ⟨q, ⟨xs, xi⟩⟩ ⟨q, ⟨ys, yi⟩⟩ j rfl] at HA
      have hjj : ¬ (j : Int) < (j : Int) := by omega
      clear S10 hj hq hjm hr4
      go_wp2_with fail
      refine HA.out.mono ?_
      rintro e w12 ⟨rfl, S12, S13⟩
      have H13 := Lib.hid S13
      clear S13 HA y0 y1 y2
      go_wp2_with fail
      go_loopg [54] 5 (fun m v wx => ∃ (j : Nat) (S : Nat → Prop), v = .int .i64 j ∧ j ≤ 4 ∧ 4 - j < m ∧ St (fun _ => False) w wx [blk zx #[.int .u8 q, .int .u8 xs, .int .u32 xi] 33, blk zy #[.int .u8 q, .int .u8 ys, .int .u32 yi] 33, tO g S (tw ⟨q, ⟨ys, yi⟩⟩ j)])
      case atStart => exact ⟨0, _, rfl, by omega, by omega, H13.out⟩
      case round =>
        clear H13
        obtain ⟨j, S9, rfl, hj, hq, S10⟩ := hrel
        by_cases hjm : j < 4
        · rw [tw_at _ _ hjm] at S10
          have hjm' : (j : Int) < 4 := by omega
          have HL := Lib.hid (And.intro hj (And.intro hq hjm))
          have HT := Lib.hid (take_d S10 2 rfl (one_I _ j 2 (by omega) (by omega)) (show (1 : Nat) ≤ 1000000 by decide) (show (1 : Int) ≤ 2 ∧ (2 : Int) ≤ 64 by decide) (show (4 : Int) ≤ 64 by decide))
          clear S10 hj hq hjm
          go_wp2_with fail
          refine HT.out.mono ?_
          rintro e w11 ⟨v', S11, rfl, S12⟩
          rw [one_L] at S12
          obtain ⟨gb, cb, rfl, hgb, hcb⟩ := slc_form (S12.get 3 rfl) (by simp)
          have e0 : w11.cell? ⟨gb, 0, none⟩ = some (.int .u8 q) := (S12.elem fl33 3 rfl (i := 0) (c := 0) rfl (by decide)).1
          have e1 : w11.cell? ⟨gb, 1, none⟩ = some (.int .u8 ys) := (S12.elem fl33 3 rfl (i := 0) (c := 1) rfl (by decide)).1
          have e2 : w11.cell? ⟨gb, 2, none⟩ = some (.int .u32 yi) := (S12.elem fl33 3 rfl (i := 0) (c := 2) rfl (by decide)).1
          have x0 : w11.cell? ⟨zy, 0, none⟩ = some (.int .u8 q) := S12.cell 1 rfl 0
          have x1 : w11.cell? ⟨zy, 1, none⟩ = some (.int .u8 ys) := S12.cell 1 rfl 1
          have x2 : w11.cell? ⟨zy, 2, none⟩ = some (.int .u32 yi) := S12.cell 1 rfl 2
          have H12 := Lib.hid S12
          clear S12 hgb hcb HT
          go_upto_region 16 with fail
          go_quiet (fail)
          have H14 := Lib.hid (H12.out.drewN nq)
          clear H12 e0 e1 e2 x0 x1 x2
          generalize w11.drewN nq = w14 at *
          go_wp2_with fail
          go_roundg (4 - j)
          case measure => have := HL.out; omega
          case rel =>
            obtain ⟨hj, hq, hjm⟩ := HL.out
            refine ⟨j + 1, S11, by go_num, by omega, by omega, ?_⟩
            have h := H14.out.drop 3
            rw [tw_D _ _ hjm] at h
            exact h
        · have ej : j = 4 := by omega
          subst ej
          have HT := Lib.hid (take_d S10 2 rfl (start_I 4 2 |> fun h => (⟨List.Pairwise.nil, by simp [tw_4, none4], by simp [tw_4, none4]⟩ : TkI (tw ⟨q, ⟨ys, yi⟩⟩ 4))) (show (0 : Nat) ≤ 1000000 by decide) (show (1 : Int) ≤ 2 ∧ (2 : Int) ≤ 64 by decide) (show (4 : Int) ≤ 64 by decide))
          clear S10 hj hq hjm
          go_wp2_with fail
          refine HT.out.mono ?_
          rintro e w11 ⟨v', S11, rfl, S12⟩
          rw [tw_4, (none_L 2).1] at S12
          obtain ⟨A8, c8, rfl⟩ := Kd.R_slice (S12.get 3 rfl).1
          have x0 : w11.cell? ⟨zx, 0, none⟩ = some (.int .u8 q) := S12.cell 0 rfl 0
          have x1 : w11.cell? ⟨zx, 1, none⟩ = some (.int .u8 xs) := S12.cell 0 rfl 1
          have x2 : w11.cell? ⟨zx, 2, none⟩ = some (.int .u32 xi) := S12.cell 0 rfl 2
          have B := Lib.hid S12.base
          clear S12 HT
          go_wp2_with fail
          refine add_nil ⟨q, ⟨xs, xi⟩⟩ ?_
          intro w15 b15
          have B2 := Lib.hid (B.out.trans (b15.mono B.out.size))
          clear B b15 x0 x1 x2
          go_wp2_with fail
          refine take_nil ?_
          intro w16 b16
          have B3 := Lib.hid (B2.out.trans (b16.mono B2.out.size))
          clear B2 b16
          go_wp2_with fail
          refine len_nil ?_
          intro w17 b17
          have B4 := Lib.hid (B3.out.trans (b17.mono B3.out.size))
          clear B3 b17
          go_wp2_with fail
          go_ret
          exact ⟨rfl, B4.out⟩
end Go.Proofs.Ytkfofcgonkkdaaa
