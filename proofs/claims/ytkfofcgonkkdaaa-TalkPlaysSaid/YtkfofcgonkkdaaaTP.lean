import Derived.Test.YtkfofcgonkkdaaaPTalkPlaysx0
import Derived.Test.YtkfofcgonkkdaaaPTalkPlaysx1
namespace Go.Proofs.Ytkfofcgonkkdaaa.PTalkPlays
open Go.RowKit Go.Proofs.YtkfofcgonkkdaaaW.PrintWords Go.Proofs.YtkfofcgonkkdaaaW.PrintLast Go.Proofs.YtkfofcgonkkdaaaW.PrintMore
attribute [local go_sem] max2_int min2_int max_two min_two max_three min_three max_four min_four   -- for this text's walks alone
set_option linter.unusedVariables false
set_option linter.unusedSimpArgs false

attribute [local go_sem high] eqA33
-- NOT PRINTED: function 7 (talk_New)

-- NOT PRINTED: function 26 (talk_piece_26)

-- NOT PRINTED: function 36 (talk_piece_36)

-- NOT PRINTED: function 27 (talk_piece_27)

/-! ### tattlerref17_SameNews: function 10 -/
def tattlerref17_SameNews.l0 : Nat → List (S33) → List (S33) → Int → Int → Option (Bool)
  | 0, _, _, _, _ => none
  | k + 1, x0, x1, x12, x13 => if x13 < x12 then (if 0 ≤ x13 then (if x13 < (x0.length : Int) then (if x13 < (x1.length : Int) then (if (!(((rd_T33 x0 x13).f0) == ((rd_T33 x1 x13).f0)) || ((!(((rd_T33 x0 x13).f1.f0) == ((rd_T33 x1 x13).f1.f0)) || (!(((rd_T33 x0 x13).f1.f1) == ((rd_T33 x1 x13).f1.f1)))))) = true then (some false) else (tattlerref17_SameNews.l0 k x0 x1 x12 (wrap64 (x13 + 1)))) else (none)) else (none)) else (none)) else (some true)
def tattlerref17_SameNews.f (k : Nat) (l0 : List (S33)) (l1 : List (S33)) : Option (Bool) := if (l0.length : Int) = (l1.length : Int) then (tattlerref17_SameNews.l0 k l0 l1 (l0.length : Int) 0) else (some false)
theorem tattlerref17_SameNews.mono_l : ∀ k, (∀ y0 y1 y2 y3, LeO (tattlerref17_SameNews.l0 k y0 y1 y2 y3) (tattlerref17_SameNews.l0 (k + 1) y0 y1 y2 y3))
  | 0 => fun _ _ _ _ r h => by simp [tattlerref17_SameNews.l0] at h
  | k + 1 => by
    have ih0 := tattlerref17_SameNews.mono_l k
    · intro y0 y1 y2 y3
      unfold tattlerref17_SameNews.l0
      repeat' first
      | (with_reducible exact ih0 _ _ _ _)
      | (with_reducible exact LeO.refl _)
      | (with_reducible exact LeO.none _)
      | (with_reducible refine LeO.ite ?_ ?_)
      | (with_reducible refine LeO.bind ?_ (fun _ => ?_))
      | exact ih0 _ _ _ _
      | exact LeO.none _
      | refine LeO.ite ?_ ?_
      | refine LeO.bind ?_ (fun _ => ?_)
theorem tattlerref17_SameNews.mono : ∀ a0 a1 k, LeO (tattlerref17_SameNews.f k a0 a1) (tattlerref17_SameNews.f (k + 1) a0 a1) := by
  intro a0 a1 k
  have ih0 := tattlerref17_SameNews.mono_l k
  unfold tattlerref17_SameNews.f
  repeat' first
      | (with_reducible exact ih0 _ _ _ _)
      | (with_reducible exact LeO.refl _)
      | (with_reducible exact LeO.none _)
      | (with_reducible refine LeO.ite ?_ ?_)
      | (with_reducible refine LeO.bind ?_ (fun _ => ?_))
      | exact ih0 _ _ _ _
      | exact LeO.none _
      | refine LeO.ite ?_ ?_
      | refine LeO.bind ?_ (fun _ => ?_)
set_option maxHeartbeats 8000000 in
set_option maxRecDepth 100000 in
theorem tattlerref17_SameNews.calls (k : Nat) (A0 : Option Addr) (c0 : Nat) (l0 : List (S33)) (A1 : Option Addr) (c1 : Nat) (l1 : List (S33)) (r : Bool) (w : World) (hr0 : Kd.C k33 w A0 l0.length l0) (hc0 : l0.length ≤ c0) (hr1 : Kd.C k33 w A1 l1.length l1) (hc1 : l1.length ≤ c1) (h : tattlerref17_SameNews.f k l0 l1 = some r) :
    Calls Try.prog 10 #[.slice A0 l0.length c0, .slice A1 l1.length c1] w fun e w' => e = .returned (.bool r) ∧ Drawn0 w w' := by
  have hu33 := Try.underlying33
  have HR0 := Aside0.mk hr0
  have HC0 := Aside0.mk hc0
  clear hr0 hc0
  have HR1 := Aside0.mk hr1
  have HC1 := Aside0.mk hc1
  clear hr1 hc1
  have H : (if (l0.length : Int) = (l1.length : Int) then (tattlerref17_SameNews.l0 k l0 l1 (l0.length : Int) 0) else (some false)) = some r := h
  clear h
  by_cases c3 : (l0.length : Int) = (l1.length : Int)
  · rw [if_pos c3] at H
    have c3b0 : ((l0.length : Int) == (l1.length : Int)) = true := beq_iff_eq.mpr c3
    have c3b1 : ((l0.length : Int) != (l1.length : Int)) = false := bne_eq_false_iff_eq.mpr c3
    have c3b2 : (l0.length == l1.length) = true := by first | simpa using c3 | (simp at c3 ⊢; omega)
    clear c3
    have H' := Aside0.mk H
    clear H
    go_enter Try.func10, Try.ntmps10
    go_wp2
    repeat (go_quiet (fail); try go_wp2)
    go_loopg [13] k (fun kq v13 w' => ∃ (x13_1 : Int), v13 = .int .i64 x13_1 ∧ Aside0 (tattlerref17_SameNews.l0 kq l0 l1 (l0.length : Int) x13_1 = some r) ∧ Aside0 (kq ≤ k) ∧ Drawn0 w w')
    case atStart => exact ⟨(0), (by first | rfl | (simp; done) | (simp [*]; done)), H', ⟨Nat.le_refl _⟩, by repeat (first | exact Drawn0.refl _ | apply Drawn0.step)⟩
    case round =>
      clear H'
      try clear c1
      try clear p2
      try clear c3
      try clear c3b0
      try clear c3b1
      try clear c3b2
      obtain ⟨x13_1, rfl, HA, HK1, ⟨m1, rfl⟩⟩ := hrel
      cases gk with
      | zero => exact absurd HA.out (by simp [tattlerref17_SameNews.l0])
      | succ k1 =>
        have H := HA.out
        clear HA
        simp only [tattlerref17_SameNews.l0] at H
        by_cases c4 : x13_1 < (l0.length : Int)
        · rw [if_pos c4] at H
          have c4b0 : decide (x13_1 < (l0.length : Int)) = true := decide_eq_true c4
          clear c4
          by_cases c5 : 0 ≤ x13_1
          · rw [if_pos c5] at H
            have c5b0 : decide (0 ≤ x13_1) = true := decide_eq_true c5
            clear c5
            by_cases c6 : x13_1 < (l0.length : Int)
            · rw [if_pos c6] at H
              have c6b0 : decide (x13_1 < (l0.length : Int)) = true := decide_eq_true c6
              clear c6
              by_cases c7 : x13_1 < (l1.length : Int)
              · rw [if_pos c7] at H
                have c7b0 : decide (x13_1 < (l1.length : Int)) = true := decide_eq_true c7
                clear c7
                by_cases c8 : (!(((rd_T33 l0 x13_1).f0) == ((rd_T33 l1 x13_1).f0)) || ((!(((rd_T33 l0 x13_1).f1.f0) == ((rd_T33 l1 x13_1).f1.f0)) || (!(((rd_T33 l0 x13_1).f1.f1) == ((rd_T33 l1 x13_1).f1.f1)))))) = true
                · rw [if_pos c8] at H
                  have c8b0 : (!(((rd_T33 l0 x13_1).f0) == ((rd_T33 l1 x13_1).f0)) || ((!(((rd_T33 l0 x13_1).f1.f0) == ((rd_T33 l1 x13_1).f1.f0)) || (!(((rd_T33 l0 x13_1).f1.f1) == ((rd_T33 l1 x13_1).f1.f1)))))) = true := c8
                  clear c8
                  obtain rfl := Option.some.inj H
                  have p110 : 0 ≤ (x13_1 : Int) := of_decide_eq_true (by first | (with_reducible assumption) | assumption)
                  have q110 : x13_1 < (l0.length : Int) := of_decide_eq_true (by first | (with_reducible assumption) | assumption)
                  obtain ⟨ad110, e110, hx110_0, hx110_1, hx110_2⟩ := at_T33 HR0.out x13_1 p110 q110
                  cases e110
                  replace p110 := eq_true p110
                  replace q110 := eq_true q110
                  have p111 : 0 ≤ (x13_1 : Int) := of_decide_eq_true (by first | (with_reducible assumption) | assumption)
                  have q111 : x13_1 < (l1.length : Int) := of_decide_eq_true (by first | (with_reducible assumption) | assumption)
                  obtain ⟨ad111, e111, hx111_0, hx111_1, hx111_2⟩ := at_T33 HR1.out x13_1 p111 q111
                  cases e111
                  replace p111 := eq_true p111
                  replace q111 := eq_true q111
                  go_wp2
                  repeat (go_quiet (fail); try go_wp2)
                  go_ret
                  exact ⟨by first | rfl | (simp; done) | (simp [*]; done), by repeat (first | exact Drawn0.refl _ | apply Drawn0.step)⟩
                · rw [if_neg c8] at H
                  have c8b0 : (!(((rd_T33 l0 x13_1).f0) == ((rd_T33 l1 x13_1).f0)) || ((!(((rd_T33 l0 x13_1).f1.f0) == ((rd_T33 l1 x13_1).f1.f0)) || (!(((rd_T33 l0 x13_1).f1.f1) == ((rd_T33 l1 x13_1).f1.f1)))))) = false := by simpa using c8
                  clear c8
                  have H' := Aside0.mk H
                  clear H
                  have p110 : 0 ≤ (x13_1 : Int) := of_decide_eq_true (by first | (with_reducible assumption) | assumption)
                  have q110 : x13_1 < (l0.length : Int) := of_decide_eq_true (by first | (with_reducible assumption) | assumption)
                  obtain ⟨ad110, e110, hx110_0, hx110_1, hx110_2⟩ := at_T33 HR0.out x13_1 p110 q110
                  cases e110
                  replace p110 := eq_true p110
                  replace q110 := eq_true q110
                  have p111 : 0 ≤ (x13_1 : Int) := of_decide_eq_true (by first | (with_reducible assumption) | assumption)
                  have q111 : x13_1 < (l1.length : Int) := of_decide_eq_true (by first | (with_reducible assumption) | assumption)
                  obtain ⟨ad111, e111, hx111_0, hx111_1, hx111_2⟩ := at_T33 HR1.out x13_1 p111 q111
                  cases e111
                  replace p111 := eq_true p111
                  replace q111 := eq_true q111
                  go_wp2
                  repeat (go_quiet (fail); try go_wp2)
                  go_roundg k1
                  case measure => have := HK1.out; omega
                  case rel => exact ⟨(wrap64 (x13_1 + 1)), (by first | rfl | (simp; done) | (simp [*]; done)), H', ⟨by have := HK1.out; omega⟩, by repeat (first | exact Drawn0.refl _ | apply Drawn0.step)⟩
              · rw [if_neg c7] at H
                exact absurd H (by simp)
            · rw [if_neg c6] at H
              exact absurd H (by simp)
          · rw [if_neg c5] at H
            exact absurd H (by simp)
        · rw [if_neg c4] at H
          have c4b0 : decide (x13_1 < (l0.length : Int)) = false := decide_eq_false c4
          clear c4
          obtain rfl := Option.some.inj H
          go_wp2
          repeat (go_quiet (fail); try go_wp2)
          go_ret
          exact ⟨by first | rfl | (simp; done) | (simp [*]; done), by repeat (first | exact Drawn0.refl _ | apply Drawn0.step)⟩
  · rw [if_neg c3] at H
    have c3b0 : ((l0.length : Int) == (l1.length : Int)) = false := beq_eq_false_iff_ne.mpr c3
    have c3b1 : ((l0.length : Int) != (l1.length : Int)) = true := bne_iff_ne.mpr c3
    have c3b2 : (l0.length == l1.length) = false := by first | simpa using c3 | (simp at c3 ⊢; omega)
    obtain rfl := Option.some.inj H
    go_enter Try.func10, Try.ntmps10
    go_wp2
    repeat (go_quiet (fail); try go_wp2)
    go_ret
    exact ⟨by first | rfl | (simp; done) | (simp [*]; done), by repeat (first | exact Drawn0.refl _ | apply Drawn0.step)⟩

/-! ### tattlerref18_Add: function 13 -/
def tattlerref18_Add.l0 : Nat → List (S57) → List (S57) → Int → Int → Int → Int → Int → Option ((List (S57)))
  | 0, _, _, _, _, _, _, _ => none
  | k + 1, x0, x5, x11, x12, x113000, x113001, x113002 => if x12 < x11 then (if 0 ≤ x12 then (if x12 < (x0.length : Int) then (if ((rd_T57 x0 x12).f0.f0) = x113000 then (tattlerref18_Add.l0 k x0 x5 x11 (wrap64 (x12 + 1)) x113000 x113001 x113002) else (if x5.length < 5864062014805 then (tattlerref18_Add.l0 k x0 (x5 ++ [(⟨(⟨(rd_T57 x0 x12).f0.f0, (⟨(rd_T57 x0 x12).f0.f1.f0, (rd_T57 x0 x12).f0.f1.f1⟩ : S31)⟩ : S33), (rd_T57 x0 x12).f1⟩ : S57)]) x11 (wrap64 (x12 + 1)) x113000 x113001 x113002) else (none))) else (none)) else (none)) else (some x5)
def tattlerref18_Add.f (k : Nat) (l0 : List (S57)) (a1_0 : Int) (a1_1 : Int) (a1_2 : Int) : Option ((List (S57))) := tattlerref18_Add.l0 k l0 (([(⟨(⟨a1_0, (⟨a1_1, a1_2⟩ : S31)⟩ : S33), 0⟩ : S57)] : List (S57))) (l0.length : Int) 0 a1_0 a1_1 a1_2
theorem tattlerref18_Add.mono_l : ∀ k, (∀ y0 y1 y2 y3 y4 y5 y6, LeO (tattlerref18_Add.l0 k y0 y1 y2 y3 y4 y5 y6) (tattlerref18_Add.l0 (k + 1) y0 y1 y2 y3 y4 y5 y6))
  | 0 => fun _ _ _ _ _ _ _ r h => by simp [tattlerref18_Add.l0] at h
  | k + 1 => by
    have ih0 := tattlerref18_Add.mono_l k
    · intro y0 y1 y2 y3 y4 y5 y6
      unfold tattlerref18_Add.l0
      repeat' first
      | (with_reducible exact ih0 _ _ _ _ _ _ _)
      | (with_reducible exact LeO.refl _)
      | (with_reducible exact LeO.none _)
      | (with_reducible refine LeO.ite ?_ ?_)
      | (with_reducible refine LeO.bind ?_ (fun _ => ?_))
      | exact ih0 _ _ _ _ _ _ _
      | exact LeO.none _
      | refine LeO.ite ?_ ?_
      | refine LeO.bind ?_ (fun _ => ?_)
theorem tattlerref18_Add.mono : ∀ a0 a1 a2 a3 k, LeO (tattlerref18_Add.f k a0 a1 a2 a3) (tattlerref18_Add.f (k + 1) a0 a1 a2 a3) := by
  intro a0 a1 a2 a3 k
  have ih0 := tattlerref18_Add.mono_l k
  unfold tattlerref18_Add.f
  repeat' first
      | (with_reducible exact ih0 _ _ _ _ _ _ _)
      | (with_reducible exact LeO.refl _)
      | (with_reducible exact LeO.none _)
      | (with_reducible refine LeO.ite ?_ ?_)
      | (with_reducible refine LeO.bind ?_ (fun _ => ?_))
      | exact ih0 _ _ _ _ _ _ _
      | exact LeO.none _
      | refine LeO.ite ?_ ?_
      | refine LeO.bind ?_ (fun _ => ?_)
set_option maxHeartbeats 8000000 in
set_option maxRecDepth 100000 in
theorem tattlerref18_Add.calls (k : Nat) (A0 : Option Addr) (c0 : Nat) (l0 : List (S57)) (a1_0 : Int) (a1_1 : Int) (a1_2 : Int) (r : List (S57)) (w : World) (hr0 : Kd.C k57 w A0 l0.length l0) (hc0 : l0.length ≤ c0) (h : tattlerref18_Add.f k l0 a1_0 a1_1 a1_2 = some r) :
    Calls Try.prog 13 #[.slice A0 l0.length c0, .agg #[.int .u8 a1_0, .int .u8 a1_1, .int .u32 a1_2]] w fun e w' => ∃ v0_ : Value, e = .returned (v0_) ∧ Kd.R k57 57 w' w.heap.size (fun _ => True) v0_ r ∧ Below w.heap.size w w' := by
  have hu33 := Try.underlying33
  have hu57 := Try.underlying57
  have HR0 := Aside0.mk hr0
  have HC0 := Aside0.mk hc0
  clear hr0 hc0
  have HB := Aside0.mk (Below.refl w.heap.size w)
  have H : (tattlerref18_Add.l0 k l0 (([(⟨(⟨a1_0, (⟨a1_1, a1_2⟩ : S31)⟩ : S33), 0⟩ : S57)] : List (S57))) (l0.length : Int) 0 a1_0 a1_1 a1_2) = some r := h
  clear h
  obtain ⟨y113, hy113⟩ : ∃ y_ : List (S57), y_ = (([(⟨(⟨a1_0, (⟨a1_1, a1_2⟩ : S31)⟩ : S33), 0⟩ : S57)] : List (S57))) := ⟨_, rfl⟩
  replace H : (tattlerref18_Add.l0 k l0 y113 (l0.length : Int) 0 a1_0 a1_1 a1_2) = some r := by first | (rw [hy113]; with_reducible exact H) | (have H2_ := (Option.bind_some _ _).symm.trans H; rw [hy113]; with_reducible exact H2_) | (have H2_ := (Option.bind_some _ _).symm.trans H; with_reducible exact H2_) | with_reducible exact H | (rw [hy113]; exact H) | exact H
  have Ny113 := Aside0.mk hy113
  clear hy113
  have H' := Aside0.mk H
  clear H
  go_enter Try.func13, Try.ntmps13
  go_wp2_with (first | ((with_reducible refine gate_dst (N := 3) rfl ?_); refine box_event ?hg (N := 3) ?hd (cs := #[.int .u8 a1_0, .int .u8 a1_1, .int .u32 a1_2]) (t := 33) ?hr ?_; (case hd => rfl); (case hg => rfl); (case hr => first | (go_simp; done) | (go_simp; rfl)); intro gb112 hg w3 hbox hb; have n0_ := Aside0.mk (below_step (by repeat (first | (with_reducible first | exact HB.out | apply below_alloc | apply pw_below_drewN | apply below_drew1) | exact HB.out)) hb); have n1_ := Aside0.mk (hbox); have n2_ := Aside0.mk ((by rw [hg]; exact (below_size (by repeat (first | (with_reducible first | exact HB.out | apply below_alloc | apply pw_below_drewN | apply below_drew1) | exact HB.out))) : w.heap.size ≤ gb112)); have n3_ := Aside0.mk ((by rw [hg]; exact (below_size (by repeat (first | (with_reducible first | exact HB.out | apply below_alloc | apply pw_below_drewN | apply below_drew1) | exact HB.out))) : w.heap.size ≤ gb112)); clear HB; have HB := n0_; have BK112 := n1_; have GW112 := n2_; have GE112 := n3_; clear n0_ n1_ n2_ n3_; clear hb hbox hg; have hcz4_0 : w3.cell? ⟨gb112, 0, none⟩ = some (.int .u8 a1_0) := (blk_cell BK112.out 0).trans rfl; have hcz4_1 : w3.cell? ⟨gb112, 1, none⟩ = some (.int .u8 a1_1) := (blk_cell BK112.out 1).trans rfl; have hcz4_2 : w3.cell? ⟨gb112, 2, none⟩ = some (.int .u32 a1_2) := (blk_cell BK112.out 2).trans rfl; have hfz4_0 := blk_frozen BK112.out 0; have hfz4_1 := blk_frozen BK112.out 1; have hfz4_2 := blk_frozen BK112.out 2) | ((with_reducible refine gate_dst (N := 9) rfl ?_); refine Kd.R_lit k57 _ 57 ?hg (N := 9) ?hd (xs := ([(⟨(⟨a1_0, (⟨a1_1, a1_2⟩ : S31)⟩ : S33), 0⟩ : S57)] : List (S57))) (inner := [.int .u8 a1_0, .int .u8 a1_1, .int .u32 a1_2, .int .i64 0]) (ok := fun _ => True) (okp := fun _ => True) ?hr ?hp (fun _ hk => hk) trivial (Below.refl _ _) (Nat.le_refl _) (by simp) ?_; (case hd => rfl); (case hg => rfl); (case hr => first | (go_simp; done) | (go_simp; rfl)); (case hp => exact (Reps.c4 (show Kd.M k57 _ _ _ (⟨(⟨a1_0, (⟨a1_1, a1_2⟩ : S31)⟩ : S33), 0⟩ : S57) [.int .u8 a1_0, .int .u8 a1_1, .int .u32 a1_2, .int .i64 0] from (k57_mkM _ _ _ (⟨(⟨a1_0, (⟨a1_1, a1_2⟩ : S31)⟩ : S33), 0⟩ : S57) )) (Reps.none _ _))); intro v114 w5 ho6 hb hg_ hnew_; clear hg_ hnew_; (first | rw [← Ny113.out] at ho6 | (simp only [Int.reduceToNat] at ho6; rw [← Ny113.out] at ho6)); have n0_ := Aside0.mk (Kd.R_lower ho6 (below_size (by repeat (first | (with_reducible first | exact HB.out | apply below_alloc | apply pw_below_drewN | apply below_drew1 | refine below_set ?_ GE112.out) | exact HB.out)))); have n1_ := Aside0.mk (blk_below (g := gb112) (o := .cells #[.int .u8 a1_0, .int .u8 a1_1, .int .u32 a1_2] 33 (0, 0)) (by (with_reducible repeat (first | refine blk_drewN ?_ _ | refine blk_drew ?_ | refine blk_alloc ?_ _)); exact BK112.out) hb); have n2_ := Aside0.mk (below_step (by repeat (first | (with_reducible first | exact HB.out | apply below_alloc | apply pw_below_drewN | apply below_drew1 | refine below_set ?_ GE112.out) | exact HB.out)) hb); clear BK112; clear HB; have HO115 := n0_; have BK112 := n1_; have HB := n2_; clear n0_ n1_ n2_; clear hb ho6))
  repeat (go_quiet (first | ((with_reducible refine gate_dst (N := 3) rfl ?_); refine box_event ?hg (N := 3) ?hd (cs := #[.int .u8 a1_0, .int .u8 a1_1, .int .u32 a1_2]) (t := 33) ?hr ?_; (case hd => rfl); (case hg => rfl); (case hr => first | (go_simp; done) | (go_simp; rfl)); intro gb112 hg w3 hbox hb; have n0_ := Aside0.mk (below_step (by repeat (first | (with_reducible first | exact HB.out | apply below_alloc | apply pw_below_drewN | apply below_drew1) | exact HB.out)) hb); have n1_ := Aside0.mk (hbox); have n2_ := Aside0.mk ((by rw [hg]; exact (below_size (by repeat (first | (with_reducible first | exact HB.out | apply below_alloc | apply pw_below_drewN | apply below_drew1) | exact HB.out))) : w.heap.size ≤ gb112)); have n3_ := Aside0.mk ((by rw [hg]; exact (below_size (by repeat (first | (with_reducible first | exact HB.out | apply below_alloc | apply pw_below_drewN | apply below_drew1) | exact HB.out))) : w.heap.size ≤ gb112)); clear HB; have HB := n0_; have BK112 := n1_; have GW112 := n2_; have GE112 := n3_; clear n0_ n1_ n2_ n3_; clear hb hbox hg; have hcz4_0 : w3.cell? ⟨gb112, 0, none⟩ = some (.int .u8 a1_0) := (blk_cell BK112.out 0).trans rfl; have hcz4_1 : w3.cell? ⟨gb112, 1, none⟩ = some (.int .u8 a1_1) := (blk_cell BK112.out 1).trans rfl; have hcz4_2 : w3.cell? ⟨gb112, 2, none⟩ = some (.int .u32 a1_2) := (blk_cell BK112.out 2).trans rfl; have hfz4_0 := blk_frozen BK112.out 0; have hfz4_1 := blk_frozen BK112.out 1; have hfz4_2 := blk_frozen BK112.out 2) | ((with_reducible refine gate_dst (N := 9) rfl ?_); refine Kd.R_lit k57 _ 57 ?hg (N := 9) ?hd (xs := ([(⟨(⟨a1_0, (⟨a1_1, a1_2⟩ : S31)⟩ : S33), 0⟩ : S57)] : List (S57))) (inner := [.int .u8 a1_0, .int .u8 a1_1, .int .u32 a1_2, .int .i64 0]) (ok := fun _ => True) (okp := fun _ => True) ?hr ?hp (fun _ hk => hk) trivial (Below.refl _ _) (Nat.le_refl _) (by simp) ?_; (case hd => rfl); (case hg => rfl); (case hr => first | (go_simp; done) | (go_simp; rfl)); (case hp => exact (Reps.c4 (show Kd.M k57 _ _ _ (⟨(⟨a1_0, (⟨a1_1, a1_2⟩ : S31)⟩ : S33), 0⟩ : S57) [.int .u8 a1_0, .int .u8 a1_1, .int .u32 a1_2, .int .i64 0] from (k57_mkM _ _ _ (⟨(⟨a1_0, (⟨a1_1, a1_2⟩ : S31)⟩ : S33), 0⟩ : S57) )) (Reps.none _ _))); intro v114 w5 ho6 hb hg_ hnew_; clear hg_ hnew_; (first | rw [← Ny113.out] at ho6 | (simp only [Int.reduceToNat] at ho6; rw [← Ny113.out] at ho6)); have n0_ := Aside0.mk (Kd.R_lower ho6 (below_size (by repeat (first | (with_reducible first | exact HB.out | apply below_alloc | apply pw_below_drewN | apply below_drew1 | refine below_set ?_ GE112.out) | exact HB.out)))); have n1_ := Aside0.mk (blk_below (g := gb112) (o := .cells #[.int .u8 a1_0, .int .u8 a1_1, .int .u32 a1_2] 33 (0, 0)) (by (with_reducible repeat (first | refine blk_drewN ?_ _ | refine blk_drew ?_ | refine blk_alloc ?_ _)); exact BK112.out) hb); have n2_ := Aside0.mk (below_step (by repeat (first | (with_reducible first | exact HB.out | apply below_alloc | apply pw_below_drewN | apply below_drew1 | refine below_set ?_ GE112.out) | exact HB.out)) hb); clear BK112; clear HB; have HO115 := n0_; have BK112 := n1_; have HB := n2_; clear n0_ n1_ n2_; clear hb ho6)); try go_wp2_with (first | ((with_reducible refine gate_dst (N := 3) rfl ?_); refine box_event ?hg (N := 3) ?hd (cs := #[.int .u8 a1_0, .int .u8 a1_1, .int .u32 a1_2]) (t := 33) ?hr ?_; (case hd => rfl); (case hg => rfl); (case hr => first | (go_simp; done) | (go_simp; rfl)); intro gb112 hg w3 hbox hb; have n0_ := Aside0.mk (below_step (by repeat (first | (with_reducible first | exact HB.out | apply below_alloc | apply pw_below_drewN | apply below_drew1) | exact HB.out)) hb); have n1_ := Aside0.mk (hbox); have n2_ := Aside0.mk ((by rw [hg]; exact (below_size (by repeat (first | (with_reducible first | exact HB.out | apply below_alloc | apply pw_below_drewN | apply below_drew1) | exact HB.out))) : w.heap.size ≤ gb112)); have n3_ := Aside0.mk ((by rw [hg]; exact (below_size (by repeat (first | (with_reducible first | exact HB.out | apply below_alloc | apply pw_below_drewN | apply below_drew1) | exact HB.out))) : w.heap.size ≤ gb112)); clear HB; have HB := n0_; have BK112 := n1_; have GW112 := n2_; have GE112 := n3_; clear n0_ n1_ n2_ n3_; clear hb hbox hg; have hcz4_0 : w3.cell? ⟨gb112, 0, none⟩ = some (.int .u8 a1_0) := (blk_cell BK112.out 0).trans rfl; have hcz4_1 : w3.cell? ⟨gb112, 1, none⟩ = some (.int .u8 a1_1) := (blk_cell BK112.out 1).trans rfl; have hcz4_2 : w3.cell? ⟨gb112, 2, none⟩ = some (.int .u32 a1_2) := (blk_cell BK112.out 2).trans rfl; have hfz4_0 := blk_frozen BK112.out 0; have hfz4_1 := blk_frozen BK112.out 1; have hfz4_2 := blk_frozen BK112.out 2) | ((with_reducible refine gate_dst (N := 9) rfl ?_); refine Kd.R_lit k57 _ 57 ?hg (N := 9) ?hd (xs := ([(⟨(⟨a1_0, (⟨a1_1, a1_2⟩ : S31)⟩ : S33), 0⟩ : S57)] : List (S57))) (inner := [.int .u8 a1_0, .int .u8 a1_1, .int .u32 a1_2, .int .i64 0]) (ok := fun _ => True) (okp := fun _ => True) ?hr ?hp (fun _ hk => hk) trivial (Below.refl _ _) (Nat.le_refl _) (by simp) ?_; (case hd => rfl); (case hg => rfl); (case hr => first | (go_simp; done) | (go_simp; rfl)); (case hp => exact (Reps.c4 (show Kd.M k57 _ _ _ (⟨(⟨a1_0, (⟨a1_1, a1_2⟩ : S31)⟩ : S33), 0⟩ : S57) [.int .u8 a1_0, .int .u8 a1_1, .int .u32 a1_2, .int .i64 0] from (k57_mkM _ _ _ (⟨(⟨a1_0, (⟨a1_1, a1_2⟩ : S31)⟩ : S33), 0⟩ : S57) )) (Reps.none _ _))); intro v114 w5 ho6 hb hg_ hnew_; clear hg_ hnew_; (first | rw [← Ny113.out] at ho6 | (simp only [Int.reduceToNat] at ho6; rw [← Ny113.out] at ho6)); have n0_ := Aside0.mk (Kd.R_lower ho6 (below_size (by repeat (first | (with_reducible first | exact HB.out | apply below_alloc | apply pw_below_drewN | apply below_drew1 | refine below_set ?_ GE112.out) | exact HB.out)))); have n1_ := Aside0.mk (blk_below (g := gb112) (o := .cells #[.int .u8 a1_0, .int .u8 a1_1, .int .u32 a1_2] 33 (0, 0)) (by (with_reducible repeat (first | refine blk_drewN ?_ _ | refine blk_drew ?_ | refine blk_alloc ?_ _)); exact BK112.out) hb); have n2_ := Aside0.mk (below_step (by repeat (first | (with_reducible first | exact HB.out | apply below_alloc | apply pw_below_drewN | apply below_drew1 | refine below_set ?_ GE112.out) | exact HB.out)) hb); clear BK112; clear HB; have HO115 := n0_; have BK112 := n1_; have HB := n2_; clear n0_ n1_ n2_; clear hb ho6)))
  go_loopg [5, 12] k (fun kq v5 v12 w' => ∃ (x5_1 : List (S57)) (x12_1 : Int), v12 = .int .i64 x12_1 ∧ Aside0 (tattlerref18_Add.l0 kq l0 x5_1 (l0.length : Int) x12_1 a1_0 a1_1 a1_2 = some r) ∧ Aside0 (kq ≤ k) ∧ Aside0 (Kd.R k57 57 w' w.heap.size (fun _ => True) v5 x5_1) ∧ Aside0 (w'.heap[gb112]? = some (.cells #[.int .u8 a1_0, .int .u8 a1_1, .int .u32 a1_2] 33 (0, 0))) ∧ Aside0 (Below w.heap.size w w'))
  case atStart => exact ⟨(y113), (0), (by first | rfl | (simp; done) | (simp [*]; done)), H', ⟨Nat.le_refl _⟩, ⟨by (with_reducible repeat (first | apply Kd.R_alloc | apply Kd.R_drewN | apply Kd.R_drew)); exact HO115.out⟩, ⟨by (with_reducible repeat (first | refine blk_drewN ?_ _ | refine blk_drew ?_ | refine blk_alloc ?_ _)); exact BK112.out⟩, ⟨by repeat (first | (with_reducible first | exact HB.out | apply below_alloc | apply pw_below_drewN | apply below_drew1 | refine below_set ?_ GE112.out) | exact HB.out)⟩⟩
  case round =>
    clear H'
    try clear c1
    try clear p2
    try clear c4
    try clear hcz4_0
    try clear hcz4_1
    try clear hcz4_2
    try clear hfz4_0
    try clear hfz4_1
    try clear hfz4_2
    obtain ⟨x5_1, x12_1, rfl, HA, HK1, HO_5, BK112, HB⟩ := hrel
    cases gk with
    | zero => exact absurd HA.out (by simp [tattlerref18_Add.l0])
    | succ k1 =>
      have H := HA.out
      clear HA
      simp only [tattlerref18_Add.l0] at H
      by_cases c7 : x12_1 < (l0.length : Int)
      · rw [if_pos c7] at H
        have c7b0 : decide (x12_1 < (l0.length : Int)) = true := decide_eq_true c7
        clear c7
        by_cases c8 : 0 ≤ x12_1
        · rw [if_pos c8] at H
          have c8b0 : decide (0 ≤ x12_1) = true := decide_eq_true c8
          clear c8
          by_cases c9 : x12_1 < (l0.length : Int)
          · rw [if_pos c9] at H
            have c9b0 : decide (x12_1 < (l0.length : Int)) = true := decide_eq_true c9
            clear c9
            by_cases c10 : ((rd_T57 l0 x12_1).f0.f0) = a1_0
            · rw [if_pos c10] at H
              have c10b0 : (((rd_T57 l0 x12_1).f0.f0) == a1_0) = true := beq_iff_eq.mpr c10
              have c10b1 : (((rd_T57 l0 x12_1).f0.f0) != a1_0) = false := bne_eq_false_iff_eq.mpr c10
              clear c10
              have H' := Aside0.mk H
              clear H
              have p116 : 0 ≤ (x12_1 : Int) := of_decide_eq_true (by first | (with_reducible assumption) | assumption)
              have q116 : x12_1 < (l0.length : Int) := of_decide_eq_true (by first | (with_reducible assumption) | assumption)
              obtain ⟨ad116, e116, hx116_0, hx116_1, hx116_2, hx116_3⟩ := at_T57 HR0.out x12_1 p116 q116
              cases e116
              replace hx116_0 := (HB.out.cell (World.block_lt_of_cell? w _ hx116_0)).trans hx116_0
              replace hx116_1 := (HB.out.cell (World.block_lt_of_cell? w _ hx116_1)).trans hx116_1
              replace hx116_2 := (HB.out.cell (World.block_lt_of_cell? w _ hx116_2)).trans hx116_2
              replace hx116_3 := (HB.out.cell (World.block_lt_of_cell? w _ hx116_3)).trans hx116_3
              replace p116 := eq_true p116
              replace q116 := eq_true q116
              have hcz11_0 : wr.cell? ⟨gb112, 0, none⟩ = some (.int .u8 a1_0) := (blk_cell BK112.out 0).trans rfl
              have hcz11_1 : wr.cell? ⟨gb112, 1, none⟩ = some (.int .u8 a1_1) := (blk_cell BK112.out 1).trans rfl
              have hcz11_2 : wr.cell? ⟨gb112, 2, none⟩ = some (.int .u32 a1_2) := (blk_cell BK112.out 2).trans rfl
              have hfz11_0 := blk_frozen BK112.out 0
              have hfz11_1 := blk_frozen BK112.out 1
              have hfz11_2 := blk_frozen BK112.out 2
              go_wp2
              repeat (go_quiet (fail); try go_wp2)
              go_roundg k1
              case measure => have := HK1.out; omega
              case rel => exact ⟨(x5_1), (wrap64 (x12_1 + 1)), (by first | rfl | (simp; done) | (simp [*]; done)), H', ⟨by have := HK1.out; omega⟩, ⟨by (with_reducible repeat (first | apply Kd.R_alloc | apply Kd.R_drewN | apply Kd.R_drew)); exact HO_5.out⟩, ⟨by (with_reducible repeat (first | refine blk_drewN ?_ _ | refine blk_drew ?_ | refine blk_alloc ?_ _)); exact BK112.out⟩, ⟨by repeat (first | (with_reducible first | exact HB.out | apply below_alloc | apply pw_below_drewN | apply below_drew1 | refine below_set ?_ GE112.out) | exact HB.out)⟩⟩
            · rw [if_neg c10] at H
              have c10b0 : (((rd_T57 l0 x12_1).f0.f0) == a1_0) = false := beq_eq_false_iff_ne.mpr c10
              have c10b1 : (((rd_T57 l0 x12_1).f0.f0) != a1_0) = true := bne_iff_ne.mpr c10
              by_cases c12 : x5_1.length < 5864062014805
              · rw [if_pos c12] at H
                have LMc12 := Aside0.mk c12
                clear c12
                obtain ⟨y118, hy118⟩ : ∃ y_ : List (S57), y_ = (x5_1 ++ [(⟨(⟨(rd_T57 l0 x12_1).f0.f0, (⟨(rd_T57 l0 x12_1).f0.f1.f0, (rd_T57 l0 x12_1).f0.f1.f1⟩ : S31)⟩ : S33), (rd_T57 l0 x12_1).f1⟩ : S57)]) := ⟨_, rfl⟩
                replace H : (tattlerref18_Add.l0 k1 l0 y118 (l0.length : Int) (wrap64 (x12_1 + 1)) a1_0 a1_1 a1_2) = some r := by first | (rw [hy118]; with_reducible exact H) | (have H2_ := (Option.bind_some _ _).symm.trans H; rw [hy118]; with_reducible exact H2_) | (have H2_ := (Option.bind_some _ _).symm.trans H; with_reducible exact H2_) | with_reducible exact H | (rw [hy118]; exact H) | exact H
                have Ny118 := Aside0.mk hy118
                clear hy118
                have H' := Aside0.mk H
                clear H
                have p116 : 0 ≤ (x12_1 : Int) := of_decide_eq_true (by first | (with_reducible assumption) | assumption)
                have q116 : x12_1 < (l0.length : Int) := of_decide_eq_true (by first | (with_reducible assumption) | assumption)
                obtain ⟨ad116, e116, hx116_0, hx116_1, hx116_2, hx116_3⟩ := at_T57 HR0.out x12_1 p116 q116
                cases e116
                replace hx116_0 := (HB.out.cell (World.block_lt_of_cell? w _ hx116_0)).trans hx116_0
                replace hx116_1 := (HB.out.cell (World.block_lt_of_cell? w _ hx116_1)).trans hx116_1
                replace hx116_2 := (HB.out.cell (World.block_lt_of_cell? w _ hx116_2)).trans hx116_2
                replace hx116_3 := (HB.out.cell (World.block_lt_of_cell? w _ hx116_3)).trans hx116_3
                replace p116 := eq_true p116
                replace q116 := eq_true q116
                have hcz13_0 : wr.cell? ⟨gb112, 0, none⟩ = some (.int .u8 a1_0) := (blk_cell BK112.out 0).trans rfl
                have hcz13_1 : wr.cell? ⟨gb112, 1, none⟩ = some (.int .u8 a1_1) := (blk_cell BK112.out 1).trans rfl
                have hcz13_2 : wr.cell? ⟨gb112, 2, none⟩ = some (.int .u32 a1_2) := (blk_cell BK112.out 2).trans rfl
                have hfz13_0 := blk_frozen BK112.out 0
                have hfz13_1 := blk_frozen BK112.out 1
                have hfz13_2 := blk_frozen BK112.out 2
                have p117 : 0 ≤ (x12_1 : Int) := of_decide_eq_true (by first | (with_reducible assumption) | assumption)
                have q117 : x12_1 < (l0.length : Int) := of_decide_eq_true (by first | (with_reducible assumption) | assumption)
                obtain ⟨ad117, e117, hx117_0, hx117_1, hx117_2, hx117_3⟩ := at_T57 HR0.out x12_1 p117 q117
                obtain rfl : ad116 = ad117 := (by injection e117)
                replace hx117_0 := (HB.out.cell (World.block_lt_of_cell? w _ hx117_0)).trans hx117_0
                replace hx117_1 := (HB.out.cell (World.block_lt_of_cell? w _ hx117_1)).trans hx117_1
                replace hx117_2 := (HB.out.cell (World.block_lt_of_cell? w _ hx117_2)).trans hx117_2
                replace hx117_3 := (HB.out.cell (World.block_lt_of_cell? w _ hx117_3)).trans hx117_3
                replace p117 := eq_true p117
                replace q117 := eq_true q117
                go_wp2_with (first | ((with_reducible refine gate_builtin (b := .append) (xs := #[.tmp 24, .tmp 29]) rfl ?_); at_builtin; refine Kd.R_append k57 (w0 := w) w.heap.size rfl (.tmp 24) (.tmp 29) 28 57 (.agg #[(.int .u8 0), (.int .u8 0), (.int .u32 0), (.int .i64 0)]) 24 rfl Try.underlying28 info57 rfl (by decide) (by omega) u5 x5_1 (⟨(⟨(rd_T57 l0 x12_1).f0.f0, (⟨(rd_T57 l0 x12_1).f0.f1.f0, (rd_T57 l0 x12_1).f0.f1.f1⟩ : S31)⟩ : S33), (rd_T57 l0 x12_1).f1⟩ : S57) [.int .u8 ((rd_T57 l0 x12_1).f0.f0), .int .u8 ((rd_T57 l0 x12_1).f0.f1.f0), .int .u32 ((rd_T57 l0 x12_1).f0.f1.f1), .int .i64 ((rd_T57 l0 x12_1).f1)] (fun _ => True) (fun _ => False) rfl rfl ?aP (fun _ hk => hk.elim) ?aF ?aO ?aB ?aS ?aL ?_; (case aP => exact k57_mkM _ _ _ (⟨(⟨(rd_T57 l0 x12_1).f0.f0, (⟨(rd_T57 l0 x12_1).f0.f1.f0, (rd_T57 l0 x12_1).f0.f1.f1⟩ : S31)⟩ : S33), (rd_T57 l0 x12_1).f1⟩ : S57)); (case aB => exact (by repeat (first | (with_reducible first | exact HB.out | apply below_alloc | apply pw_below_drewN | apply below_drew1 | refine below_set ?_ GE112.out) | exact HB.out))); (case aF => exact (fun _ _ => trivial)); (case aO => exact (by (with_reducible repeat (first | apply Kd.R_alloc | apply Kd.R_drewN | apply Kd.R_drew)); exact HO_5.out)); (case aS => exact (below_size (by repeat (first | (with_reducible first | exact HB.out | apply below_alloc | apply pw_below_drewN | apply below_drew1 | refine below_set ?_ GE112.out) | exact HB.out)))); (case aL => have := LMc12.out; omega); intro v119 w14 ho hb hg hat; rw [← Ny118.out] at ho; have n0_ := Aside0.mk (blk_grown (g := gb112) (o := .cells #[.int .u8 a1_0, .int .u8 a1_1, .int .u32 a1_2] 33 (0, 0)) (by (with_reducible repeat (first | refine blk_drewN ?_ _ | refine blk_drew ?_ | refine blk_alloc ?_ _)); exact BK112.out) hg (Kd.R_ne HO_5.out BK112.out (by decide))); have n1_ := Aside0.mk (hb); have n2_ := Aside0.mk (ho); clear BK112; clear HB; clear HO_5; have BK112 := n0_; have HB := n1_; have HO120 := n2_; clear n0_ n1_ n2_; clear ho hb hg hat))
                repeat (go_quiet (first | ((with_reducible refine gate_builtin (b := .append) (xs := #[.tmp 24, .tmp 29]) rfl ?_); at_builtin; refine Kd.R_append k57 (w0 := w) w.heap.size rfl (.tmp 24) (.tmp 29) 28 57 (.agg #[(.int .u8 0), (.int .u8 0), (.int .u32 0), (.int .i64 0)]) 24 rfl Try.underlying28 info57 rfl (by decide) (by omega) u5 x5_1 (⟨(⟨(rd_T57 l0 x12_1).f0.f0, (⟨(rd_T57 l0 x12_1).f0.f1.f0, (rd_T57 l0 x12_1).f0.f1.f1⟩ : S31)⟩ : S33), (rd_T57 l0 x12_1).f1⟩ : S57) [.int .u8 ((rd_T57 l0 x12_1).f0.f0), .int .u8 ((rd_T57 l0 x12_1).f0.f1.f0), .int .u32 ((rd_T57 l0 x12_1).f0.f1.f1), .int .i64 ((rd_T57 l0 x12_1).f1)] (fun _ => True) (fun _ => False) rfl rfl ?aP (fun _ hk => hk.elim) ?aF ?aO ?aB ?aS ?aL ?_; (case aP => exact k57_mkM _ _ _ (⟨(⟨(rd_T57 l0 x12_1).f0.f0, (⟨(rd_T57 l0 x12_1).f0.f1.f0, (rd_T57 l0 x12_1).f0.f1.f1⟩ : S31)⟩ : S33), (rd_T57 l0 x12_1).f1⟩ : S57)); (case aB => exact (by repeat (first | (with_reducible first | exact HB.out | apply below_alloc | apply pw_below_drewN | apply below_drew1 | refine below_set ?_ GE112.out) | exact HB.out))); (case aF => exact (fun _ _ => trivial)); (case aO => exact (by (with_reducible repeat (first | apply Kd.R_alloc | apply Kd.R_drewN | apply Kd.R_drew)); exact HO_5.out)); (case aS => exact (below_size (by repeat (first | (with_reducible first | exact HB.out | apply below_alloc | apply pw_below_drewN | apply below_drew1 | refine below_set ?_ GE112.out) | exact HB.out)))); (case aL => have := LMc12.out; omega); intro v119 w14 ho hb hg hat; rw [← Ny118.out] at ho; have n0_ := Aside0.mk (blk_grown (g := gb112) (o := .cells #[.int .u8 a1_0, .int .u8 a1_1, .int .u32 a1_2] 33 (0, 0)) (by (with_reducible repeat (first | refine blk_drewN ?_ _ | refine blk_drew ?_ | refine blk_alloc ?_ _)); exact BK112.out) hg (Kd.R_ne HO_5.out BK112.out (by decide))); have n1_ := Aside0.mk (hb); have n2_ := Aside0.mk (ho); clear BK112; clear HB; clear HO_5; have BK112 := n0_; have HB := n1_; have HO120 := n2_; clear n0_ n1_ n2_; clear ho hb hg hat)); try go_wp2_with (first | ((with_reducible refine gate_builtin (b := .append) (xs := #[.tmp 24, .tmp 29]) rfl ?_); at_builtin; refine Kd.R_append k57 (w0 := w) w.heap.size rfl (.tmp 24) (.tmp 29) 28 57 (.agg #[(.int .u8 0), (.int .u8 0), (.int .u32 0), (.int .i64 0)]) 24 rfl Try.underlying28 info57 rfl (by decide) (by omega) u5 x5_1 (⟨(⟨(rd_T57 l0 x12_1).f0.f0, (⟨(rd_T57 l0 x12_1).f0.f1.f0, (rd_T57 l0 x12_1).f0.f1.f1⟩ : S31)⟩ : S33), (rd_T57 l0 x12_1).f1⟩ : S57) [.int .u8 ((rd_T57 l0 x12_1).f0.f0), .int .u8 ((rd_T57 l0 x12_1).f0.f1.f0), .int .u32 ((rd_T57 l0 x12_1).f0.f1.f1), .int .i64 ((rd_T57 l0 x12_1).f1)] (fun _ => True) (fun _ => False) rfl rfl ?aP (fun _ hk => hk.elim) ?aF ?aO ?aB ?aS ?aL ?_; (case aP => exact k57_mkM _ _ _ (⟨(⟨(rd_T57 l0 x12_1).f0.f0, (⟨(rd_T57 l0 x12_1).f0.f1.f0, (rd_T57 l0 x12_1).f0.f1.f1⟩ : S31)⟩ : S33), (rd_T57 l0 x12_1).f1⟩ : S57)); (case aB => exact (by repeat (first | (with_reducible first | exact HB.out | apply below_alloc | apply pw_below_drewN | apply below_drew1 | refine below_set ?_ GE112.out) | exact HB.out))); (case aF => exact (fun _ _ => trivial)); (case aO => exact (by (with_reducible repeat (first | apply Kd.R_alloc | apply Kd.R_drewN | apply Kd.R_drew)); exact HO_5.out)); (case aS => exact (below_size (by repeat (first | (with_reducible first | exact HB.out | apply below_alloc | apply pw_below_drewN | apply below_drew1 | refine below_set ?_ GE112.out) | exact HB.out)))); (case aL => have := LMc12.out; omega); intro v119 w14 ho hb hg hat; rw [← Ny118.out] at ho; have n0_ := Aside0.mk (blk_grown (g := gb112) (o := .cells #[.int .u8 a1_0, .int .u8 a1_1, .int .u32 a1_2] 33 (0, 0)) (by (with_reducible repeat (first | refine blk_drewN ?_ _ | refine blk_drew ?_ | refine blk_alloc ?_ _)); exact BK112.out) hg (Kd.R_ne HO_5.out BK112.out (by decide))); have n1_ := Aside0.mk (hb); have n2_ := Aside0.mk (ho); clear BK112; clear HB; clear HO_5; have BK112 := n0_; have HB := n1_; have HO120 := n2_; clear n0_ n1_ n2_; clear ho hb hg hat)))
                go_roundg k1
                case measure => have := HK1.out; omega
                case rel => exact ⟨(y118), (wrap64 (x12_1 + 1)), (by first | rfl | (simp; done) | (simp [*]; done)), H', ⟨by have := HK1.out; omega⟩, ⟨by (with_reducible repeat (first | apply Kd.R_alloc | apply Kd.R_drewN | apply Kd.R_drew)); exact HO120.out⟩, ⟨by (with_reducible repeat (first | refine blk_drewN ?_ _ | refine blk_drew ?_ | refine blk_alloc ?_ _)); exact BK112.out⟩, ⟨by repeat (first | (with_reducible first | exact HB.out | apply below_alloc | apply pw_below_drewN | apply below_drew1 | refine below_set ?_ GE112.out) | exact HB.out)⟩⟩
              · rw [if_neg c12] at H
                exact absurd H (by simp)
          · rw [if_neg c9] at H
            exact absurd H (by simp)
        · rw [if_neg c8] at H
          exact absurd H (by simp)
      · rw [if_neg c7] at H
        have c7b0 : decide (x12_1 < (l0.length : Int)) = false := decide_eq_false c7
        clear c7
        obtain rfl := Option.some.inj H
        go_wp2
        repeat (go_quiet (fail); try go_wp2)
        go_ret
        exact ⟨_, by first | rfl | (simp [errW_none, errW_some] <;> rfl) | (simp [*, errW_none, errW_some] <;> rfl), by (with_reducible repeat (first | apply Kd.R_alloc | apply Kd.R_drewN | apply Kd.R_drew)); exact HO_5.out, by repeat (first | (with_reducible first | exact HB.out | apply below_alloc | apply pw_below_drewN | apply below_drew1 | refine below_set ?_ GE112.out) | exact HB.out)⟩

-- NOT PRINTED: function 3 (tattlerlaw18_TalkPlays)

end Go.Proofs.Ytkfofcgonkkdaaa.PTalkPlays
