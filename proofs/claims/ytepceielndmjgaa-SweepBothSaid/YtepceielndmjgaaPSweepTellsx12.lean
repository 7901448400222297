-- PRINTED BY print.sh 35421559b90ae4d0a3588c463048766b98c2df88dd9212a6774a882060cdf62d: not written by this session
import Derived.Test.YtepceielndmjgaaPSweepTellsx0
import Derived.Test.YtepceielndmjgaaPSweepTellsx1
import Derived.Test.YtepceielndmjgaaPSweepTellsx3
import Derived.Test.YtepceielndmjgaaPSweepTellsx4
namespace Go.Proofs.Ytepceielndmjgaa.PSweepTells
open Go.RowKit Go.Proofs.YtepceielndmjgaaW.PrintWords Go.Proofs.YtepceielndmjgaaW.PrintLast Go.Proofs.YtepceielndmjgaaW.PrintMore
attribute [local go_sem] max2_int min2_int max_two min_two max_three min_three max_four min_four   -- for this text's walks alone
set_option linter.unusedVariables false
set_option linter.unusedSimpArgs false

attribute [local go_sem high] eqA39 eqA43
-- NOT PRINTED: function 43 (slices_partitionOrdered_string)

-- NOT PRINTED: function 29 (slices_pdqsortOrdered_string)

-- NOT PRINTED: function 24 (slices_Sort_string_string)

-- NOT PRINTED: function 17 (sweep_Pull)

-- NOT PRINTED: function 9 (tattlerlaw15_fixed)

/-! ### tattlerref15_SameSeen: function 10 -/
def tattlerref15_SameSeen.l0 : Nat → List (S43) → List (S43) → Int → Int → Option (Bool)
  | 0, _, _, _, _ => none
  | k + 1, x0, x1, x12, x13 => if x13 < x12 then (if 0 ≤ x13 then (if x13 < (x0.length : Int) then (if x13 < (x1.length : Int) then (if (!((((rd_T43 x0 x13).f0).toList) == (((rd_T43 x1 x13).f0).toList)) || ((!(((rd_T43 x0 x13).f1.f0) == ((rd_T43 x1 x13).f1.f0)) || (!(((rd_T43 x0 x13).f1.f1) == ((rd_T43 x1 x13).f1.f1)) || (!(((rd_T43 x0 x13).f1.f2) == ((rd_T43 x1 x13).f1.f2))))) || (!(((rd_T43 x0 x13).f2) == ((rd_T43 x1 x13).f2))))) = true then (some false) else (tattlerref15_SameSeen.l0 k x0 x1 x12 (wrap64 (x13 + 1)))) else (none)) else (none)) else (none)) else (some true)
def tattlerref15_SameSeen.f (k : Nat) (l0 : List (S43)) (l1 : List (S43)) : Option (Bool) := if (l0.length : Int) = (l1.length : Int) then (tattlerref15_SameSeen.l0 k l0 l1 (l0.length : Int) 0) else (some false)
theorem tattlerref15_SameSeen.mono_l : ∀ k, (∀ y0 y1 y2 y3, LeO (tattlerref15_SameSeen.l0 k y0 y1 y2 y3) (tattlerref15_SameSeen.l0 (k + 1) y0 y1 y2 y3))
  | 0 => fun _ _ _ _ r h => by simp [tattlerref15_SameSeen.l0] at h
  | k + 1 => by
    have ih0 := tattlerref15_SameSeen.mono_l k
    · intro y0 y1 y2 y3
      unfold tattlerref15_SameSeen.l0
      repeat' first
      | (with_reducible exact ih0 _ _ _ _)
      | (with_reducible exact LeO.refl _)
      | (with_reducible exact LeO.none _)
      | (with_reducible refine LeO.ite ?_ ?_)
      | (with_reducible refine LeO.bind ?_ (fun _ => ?_))
      | exact ih0 _ _ _ _
      | exact LeO.none _
      | refine LeO.ite ?_ ?_
      | refine LeO.bind ?_ (fun _ => ?_)
theorem tattlerref15_SameSeen.mono : ∀ a0 a1 k, LeO (tattlerref15_SameSeen.f k a0 a1) (tattlerref15_SameSeen.f (k + 1) a0 a1) := by
  intro a0 a1 k
  have ih0 := tattlerref15_SameSeen.mono_l k
  unfold tattlerref15_SameSeen.f
  repeat' first
      | (with_reducible exact ih0 _ _ _ _)
      | (with_reducible exact LeO.refl _)
      | (with_reducible exact LeO.none _)
      | (with_reducible refine LeO.ite ?_ ?_)
      | (with_reducible refine LeO.bind ?_ (fun _ => ?_))
      | exact ih0 _ _ _ _
      | exact LeO.none _
      | refine LeO.ite ?_ ?_
      | refine LeO.bind ?_ (fun _ => ?_)
set_option maxHeartbeats 8000000 in
set_option maxRecDepth 100000 in
theorem tattlerref15_SameSeen.calls (k : Nat) (A0 : Option Addr) (c0 : Nat) (l0 : List (S43)) (A1 : Option Addr) (c1 : Nat) (l1 : List (S43)) (r : Bool) (w : World) (hr0 : Kd.C k43 w A0 l0.length l0) (hc0 : l0.length ≤ c0) (hr1 : Kd.C k43 w A1 l1.length l1) (hc1 : l1.length ≤ c1) (h : tattlerref15_SameSeen.f k l0 l1 = some r) :
    Calls Try.prog 10 #[.slice A0 l0.length c0, .slice A1 l1.length c1] w fun e w' => e = .returned (.bool r) ∧ Drawn0 w w' := by
  have hu43 := Try.underlying43
  have HR0 := Aside0.mk hr0
  have HC0 := Aside0.mk hc0
  clear hr0 hc0
  have HR1 := Aside0.mk hr1
  have HC1 := Aside0.mk hc1
  clear hr1 hc1
  have H : (if (l0.length : Int) = (l1.length : Int) then (tattlerref15_SameSeen.l0 k l0 l1 (l0.length : Int) 0) else (some false)) = some r := h
  clear h
  by_cases c3 : (l0.length : Int) = (l1.length : Int)
  · rw [if_pos c3] at H
    have c3b0 : ((l0.length : Int) == (l1.length : Int)) = true := beq_iff_eq.mpr c3
    have c3b1 : ((l0.length : Int) != (l1.length : Int)) = false := bne_eq_false_iff_eq.mpr c3
    have c3b2 : (l0.length == l1.length) = true := by first | simpa using c3 | (simp at c3 ⊢; omega)
    clear c3
    have H' := Aside0.mk H
    clear H
    go_enter Try.func10, Try.ntmps10
    go_wp2
    repeat (go_quiet (fail); try go_wp2)
    go_loopg [13] k (fun kq v13 w' => ∃ (x13_1 : Int), v13 = .int .i64 x13_1 ∧ Aside0 (tattlerref15_SameSeen.l0 kq l0 l1 (l0.length : Int) x13_1 = some r) ∧ Aside0 (kq ≤ k) ∧ Drawn0 w w')
    case atStart => exact ⟨(0), (by first | rfl | (simp; done) | (simp [*]; done)), H', ⟨Nat.le_refl _⟩, by repeat (first | exact Drawn0.refl _ | apply Drawn0.step)⟩
    case round =>
      clear H'
      try clear c1
      try clear p2
      try clear c3
      try clear c3b0
      try clear c3b1
      try clear c3b2
      obtain ⟨x13_1, rfl, HA, HK1, ⟨m1, rfl⟩⟩ := hrel
      cases gk with
      | zero => exact absurd HA.out (by simp [tattlerref15_SameSeen.l0])
      | succ k1 =>
        have H := HA.out
        clear HA
        simp only [tattlerref15_SameSeen.l0] at H
        by_cases c4 : x13_1 < (l0.length : Int)
        · rw [if_pos c4] at H
          have c4b0 : decide (x13_1 < (l0.length : Int)) = true := decide_eq_true c4
          clear c4
          by_cases c5 : 0 ≤ x13_1
          · rw [if_pos c5] at H
            have c5b0 : decide (0 ≤ x13_1) = true := decide_eq_true c5
            clear c5
            by_cases c6 : x13_1 < (l0.length : Int)
            · rw [if_pos c6] at H
              have c6b0 : decide (x13_1 < (l0.length : Int)) = true := decide_eq_true c6
              clear c6
              by_cases c7 : x13_1 < (l1.length : Int)
              · rw [if_pos c7] at H
                have c7b0 : decide (x13_1 < (l1.length : Int)) = true := decide_eq_true c7
                clear c7
                by_cases c8 : (!((((rd_T43 l0 x13_1).f0).toList) == (((rd_T43 l1 x13_1).f0).toList)) || ((!(((rd_T43 l0 x13_1).f1.f0) == ((rd_T43 l1 x13_1).f1.f0)) || (!(((rd_T43 l0 x13_1).f1.f1) == ((rd_T43 l1 x13_1).f1.f1)) || (!(((rd_T43 l0 x13_1).f1.f2) == ((rd_T43 l1 x13_1).f1.f2))))) || (!(((rd_T43 l0 x13_1).f2) == ((rd_T43 l1 x13_1).f2))))) = true
                · rw [if_pos c8] at H
                  have c8b0 : (!((((rd_T43 l0 x13_1).f0).toList) == (((rd_T43 l1 x13_1).f0).toList)) || ((!(((rd_T43 l0 x13_1).f1.f0) == ((rd_T43 l1 x13_1).f1.f0)) || (!(((rd_T43 l0 x13_1).f1.f1) == ((rd_T43 l1 x13_1).f1.f1)) || (!(((rd_T43 l0 x13_1).f1.f2) == ((rd_T43 l1 x13_1).f1.f2))))) || (!(((rd_T43 l0 x13_1).f2) == ((rd_T43 l1 x13_1).f2))))) = true := c8
                  clear c8
                  obtain rfl := Option.some.inj H
                  have p259 : 0 ≤ (x13_1 : Int) := of_decide_eq_true (by first | (with_reducible assumption) | assumption)
                  have q259 : x13_1 < (l0.length : Int) := of_decide_eq_true (by first | (with_reducible assumption) | assumption)
                  obtain ⟨ad259, e259, hx259_0, hx259_1, hx259_2, hx259_3, hx259_4⟩ := at_T43 HR0.out x13_1 p259 q259
                  cases e259
                  replace p259 := eq_true p259
                  replace q259 := eq_true q259
                  have p260 : 0 ≤ (x13_1 : Int) := of_decide_eq_true (by first | (with_reducible assumption) | assumption)
                  have q260 : x13_1 < (l1.length : Int) := of_decide_eq_true (by first | (with_reducible assumption) | assumption)
                  obtain ⟨ad260, e260, hx260_0, hx260_1, hx260_2, hx260_3, hx260_4⟩ := at_T43 HR1.out x13_1 p260 q260
                  cases e260
                  replace p260 := eq_true p260
                  replace q260 := eq_true q260
                  go_wp2
                  repeat (go_quiet (fail); try go_wp2)
                  go_ret
                  exact ⟨by first | rfl | (simp; done) | (simp [*]; done), by repeat (first | exact Drawn0.refl _ | apply Drawn0.step)⟩
                · rw [if_neg c8] at H
                  have c8b0 : (!((((rd_T43 l0 x13_1).f0).toList) == (((rd_T43 l1 x13_1).f0).toList)) || ((!(((rd_T43 l0 x13_1).f1.f0) == ((rd_T43 l1 x13_1).f1.f0)) || (!(((rd_T43 l0 x13_1).f1.f1) == ((rd_T43 l1 x13_1).f1.f1)) || (!(((rd_T43 l0 x13_1).f1.f2) == ((rd_T43 l1 x13_1).f1.f2))))) || (!(((rd_T43 l0 x13_1).f2) == ((rd_T43 l1 x13_1).f2))))) = false := by simpa using c8
                  clear c8
                  have H' := Aside0.mk H
                  clear H
                  have p259 : 0 ≤ (x13_1 : Int) := of_decide_eq_true (by first | (with_reducible assumption) | assumption)
                  have q259 : x13_1 < (l0.length : Int) := of_decide_eq_true (by first | (with_reducible assumption) | assumption)
                  obtain ⟨ad259, e259, hx259_0, hx259_1, hx259_2, hx259_3, hx259_4⟩ := at_T43 HR0.out x13_1 p259 q259
                  cases e259
                  replace p259 := eq_true p259
                  replace q259 := eq_true q259
                  have p260 : 0 ≤ (x13_1 : Int) := of_decide_eq_true (by first | (with_reducible assumption) | assumption)
                  have q260 : x13_1 < (l1.length : Int) := of_decide_eq_true (by first | (with_reducible assumption) | assumption)
                  obtain ⟨ad260, e260, hx260_0, hx260_1, hx260_2, hx260_3, hx260_4⟩ := at_T43 HR1.out x13_1 p260 q260
                  cases e260
                  replace p260 := eq_true p260
                  replace q260 := eq_true q260
                  go_wp2
                  repeat (go_quiet (fail); try go_wp2)
                  go_roundg k1
                  case measure => have := HK1.out; omega
                  case rel => exact ⟨(wrap64 (x13_1 + 1)), (by first | rfl | (simp; done) | (simp [*]; done)), H', ⟨by have := HK1.out; omega⟩, by repeat (first | exact Drawn0.refl _ | apply Drawn0.step)⟩
              · rw [if_neg c7] at H
                exact absurd H (by simp)
            · rw [if_neg c6] at H
              exact absurd H (by simp)
          · rw [if_neg c5] at H
            exact absurd H (by simp)
        · rw [if_neg c4] at H
          have c4b0 : decide (x13_1 < (l0.length : Int)) = false := decide_eq_false c4
          clear c4
          obtain rfl := Option.some.inj H
          go_wp2
          repeat (go_quiet (fail); try go_wp2)
          go_ret
          exact ⟨by first | rfl | (simp; done) | (simp [*]; done), by repeat (first | exact Drawn0.refl _ | apply Drawn0.step)⟩
  · rw [if_neg c3] at H
    have c3b0 : ((l0.length : Int) == (l1.length : Int)) = false := beq_eq_false_iff_ne.mpr c3
    have c3b1 : ((l0.length : Int) != (l1.length : Int)) = true := bne_iff_ne.mpr c3
    have c3b2 : (l0.length == l1.length) = false := by first | simpa using c3 | (simp at c3 ⊢; omega)
    obtain rfl := Option.some.inj H
    go_enter Try.func10, Try.ntmps10
    go_wp2
    repeat (go_quiet (fail); try go_wp2)
    go_ret
    exact ⟨by first | rfl | (simp; done) | (simp [*]; done), by repeat (first | exact Drawn0.refl _ | apply Drawn0.step)⟩

/-! ### sweep_Summary: function 11 -/
def sweep_Summary.l0 : Nat → List (S43) → List (S41) → Int → Int → Option ((List (S43)))
  | 0, _, _, _, _ => none
  | k + 1, x3, x6, x7, x8 => if x8 < x7 then (if 0 ≤ x8 then (if x8 < (x6.length : Int) then ((sweep_seen.f ((rd_T41 x6 x8).f0) ((rd_T41 x6 x8).f1.f0) ((rd_T41 x6 x8).f1.f1) ((rd_T41 x6 x8).f1.f2) ((rd_T41 x6 x8).f2) ((rd_T41 x6 x8).f3) ((rd_T41 x6 x8).f4) ((rd_T41 x6 x8).f5)).bind fun bt263 => (if x3.length < 3518437208883 then (sweep_Summary.l0 k (x3 ++ [(⟨bt263.1, (⟨bt263.2.1, bt263.2.2.1, bt263.2.2.2.1⟩ : S39), bt263.2.2.2.2⟩ : S43)]) x6 x7 (wrap64 (x8 + 1))) else (none))) else (none)) else (none)) else (some x3)
def sweep_Summary.f (k : Nat) (l0 : List (S41)) : Option ((List (S43))) := sweep_Summary.l0 k ([] : List (S43)) l0 (l0.length : Int) 0
theorem sweep_Summary.mono_l : ∀ k, (∀ y0 y1 y2 y3, LeO (sweep_Summary.l0 k y0 y1 y2 y3) (sweep_Summary.l0 (k + 1) y0 y1 y2 y3))
  | 0 => fun _ _ _ _ r h => by simp [sweep_Summary.l0] at h
  | k + 1 => by
    have ih0 := sweep_Summary.mono_l k
    · intro y0 y1 y2 y3
      unfold sweep_Summary.l0
      repeat' first
      | (with_reducible exact ih0 _ _ _ _)
      | (with_reducible exact LeO.refl _)
      | (with_reducible exact LeO.none _)
      | (with_reducible refine LeO.ite ?_ ?_)
      | (with_reducible refine LeO.bind ?_ (fun _ => ?_))
      | exact ih0 _ _ _ _
      | exact LeO.none _
      | refine LeO.ite ?_ ?_
      | refine LeO.bind ?_ (fun _ => ?_)
theorem sweep_Summary.mono : ∀ a0 k, LeO (sweep_Summary.f k a0) (sweep_Summary.f (k + 1) a0) := by
  intro a0 k
  have ih0 := sweep_Summary.mono_l k
  unfold sweep_Summary.f
  repeat' first
      | (with_reducible exact ih0 _ _ _ _)
      | (with_reducible exact LeO.refl _)
      | (with_reducible exact LeO.none _)
      | (with_reducible refine LeO.ite ?_ ?_)
      | (with_reducible refine LeO.bind ?_ (fun _ => ?_))
      | exact ih0 _ _ _ _
      | exact LeO.none _
      | refine LeO.ite ?_ ?_
      | refine LeO.bind ?_ (fun _ => ?_)
set_option maxHeartbeats 8000000 in
set_option maxRecDepth 100000 in
theorem sweep_Summary.calls (k : Nat) (A0 : Option Addr) (c0 : Nat) (l0 : List (S41)) (r : List (S43)) (w : World) (hr0 : Kd.C k41 w A0 l0.length l0) (hc0 : l0.length ≤ c0) (h : sweep_Summary.f k l0 = some r) :
    Calls Try.prog 11 #[.slice A0 l0.length c0] w fun e w' => ∃ v0_ : Value, e = .returned (v0_) ∧ Kd.R k43 43 w' w.heap.size (fun _ => True) v0_ r ∧ Below w.heap.size w w' := by
  have hu41 := Try.underlying41
  have HR0 := Aside0.mk hr0
  have HC0 := Aside0.mk hc0
  clear hr0 hc0
  have HB := Aside0.mk (Below.refl w.heap.size w)
  have H : (sweep_Summary.l0 k ([] : List (S43)) l0 (l0.length : Int) 0) = some r := h
  clear h
  have H' := Aside0.mk H
  clear H
  go_enter Try.func11, Try.ntmps11
  go_wp2
  go_loopg [3, 8] k (fun kq v3 v8 w' => ∃ (x3_1 : List (S43)) (x8_1 : Int), v8 = .int .i64 x8_1 ∧ Aside0 (sweep_Summary.l0 kq x3_1 l0 (l0.length : Int) x8_1 = some r) ∧ Aside0 (kq ≤ k) ∧ Aside0 (Kd.R k43 43 w' w.heap.size (fun _ => True) v3 x3_1) ∧ Aside0 (Below w.heap.size w w'))
  case atStart => exact ⟨(([] : List (S43))), (0), (by first | rfl | (simp; done) | (simp [*]; done)), H', ⟨Nat.le_refl _⟩, ⟨by first | exact Kd.R_nil _ _ _ _ _ | exact Kd.N_nil _ _ _ _ _ | exact Kd.V_nil _ _ _ _ _ | exact Kd.Q_nil _ _ _ _ _ | exact Kd.S_nil _ _ _ _ _⟩, ⟨by repeat (first | (with_reducible first | exact HB.out | apply below_alloc | apply pw_below_drewN | apply below_drew1) | exact HB.out)⟩⟩
  case round =>
    clear H'
    try clear c1
    obtain ⟨x3_1, x8_1, rfl, HA, HK1, HO_3, HB⟩ := hrel
    cases gk with
    | zero => exact absurd HA.out (by simp [sweep_Summary.l0])
    | succ k1 =>
      have H := HA.out
      clear HA
      simp only [sweep_Summary.l0] at H
      by_cases c2 : x8_1 < (l0.length : Int)
      · rw [if_pos c2] at H
        have c2b0 : decide (x8_1 < (l0.length : Int)) = true := decide_eq_true c2
        clear c2
        by_cases c3 : 0 ≤ x8_1
        · rw [if_pos c3] at H
          have c3b0 : decide (0 ≤ x8_1) = true := decide_eq_true c3
          clear c3
          by_cases c4 : x8_1 < (l0.length : Int)
          · rw [if_pos c4] at H
            have c4b0 : decide (x8_1 < (l0.length : Int)) = true := decide_eq_true c4
            clear c4
            replace H := Option.bind_eq_some_iff.mp H
            obtain ⟨⟨t263, t264, t265, t266, t267⟩, A50, H⟩ := H
            replace H : (if x3_1.length < 3518437208883 then (sweep_Summary.l0 k1 (x3_1 ++ [(⟨t263, (⟨t264, t265, t266⟩ : S39), t267⟩ : S43)]) l0 (l0.length : Int) (wrap64 (x8_1 + 1))) else (none)) = some r := H
            have A5 := Aside0.mk A50
            clear A50
            by_cases c6 : x3_1.length < 3518437208883
            · rw [if_pos c6] at H
              have LMc6 := Aside0.mk c6
              clear c6
              obtain ⟨y268, hy268⟩ : ∃ y_ : List (S43), y_ = (x3_1 ++ [(⟨t263, (⟨t264, t265, t266⟩ : S39), t267⟩ : S43)]) := ⟨_, rfl⟩
              replace H : (sweep_Summary.l0 k1 y268 l0 (l0.length : Int) (wrap64 (x8_1 + 1))) = some r := by first | (rw [hy268]; with_reducible exact H) | (have H2_ := (Option.bind_some _ _).symm.trans H; rw [hy268]; with_reducible exact H2_) | (have H2_ := (Option.bind_some _ _).symm.trans H; with_reducible exact H2_) | with_reducible exact H | (rw [hy268]; exact H) | exact H
              have Ny268 := Aside0.mk hy268
              clear hy268
              have H' := Aside0.mk H
              clear H
              have p261 : 0 ≤ (x8_1 : Int) := of_decide_eq_true (by first | (with_reducible assumption) | assumption)
              have q261 : x8_1 < (l0.length : Int) := of_decide_eq_true (by first | (with_reducible assumption) | assumption)
              obtain ⟨ad261, e261, hx261_0, hx261_1, hx261_2, hx261_3, hx261_4, hx261_5, hx261_6, hx261_7⟩ := at_T41 HR0.out x8_1 p261 q261
              cases e261
              replace hx261_0 := (HB.out.cell (World.block_lt_of_cell? w _ hx261_0)).trans hx261_0
              replace hx261_1 := (HB.out.cell (World.block_lt_of_cell? w _ hx261_1)).trans hx261_1
              replace hx261_2 := (HB.out.cell (World.block_lt_of_cell? w _ hx261_2)).trans hx261_2
              replace hx261_3 := (HB.out.cell (World.block_lt_of_cell? w _ hx261_3)).trans hx261_3
              replace hx261_4 := (HB.out.cell (World.block_lt_of_cell? w _ hx261_4)).trans hx261_4
              replace hx261_5 := (HB.out.cell (World.block_lt_of_cell? w _ hx261_5)).trans hx261_5
              replace hx261_6 := (HB.out.cell (World.block_lt_of_cell? w _ hx261_6)).trans hx261_6
              replace hx261_7 := (HB.out.cell (World.block_lt_of_cell? w _ hx261_7)).trans hx261_7
              replace p261 := eq_true p261
              replace q261 := eq_true q261
              go_wp2_with (first | ((with_reducible refine gate_dst (N := 5) rfl ?_); refine box_event ?hg (N := 5) ?hd (cs := #[.string (⟨#[]⟩ : ByteArray), .int .u64 0, .int .u32 0, .int .u8 0, .int .u8 0, .int .u32 0, .int .u64 0, .string (⟨#[]⟩ : ByteArray)]) (t := 41) ?hr ?_; (case hd => rfl); (case hg => rfl); (case hr => first | (go_simp; done) | (go_simp; rfl)); intro gb262 hg w7 hbox hb; have n0_ := Aside0.mk (Kd.R_below (by (with_reducible repeat (first | apply Kd.R_alloc | apply Kd.R_drewN | apply Kd.R_drew)); exact HO_3.out) hb); have n1_ := Aside0.mk (below_step (by repeat (first | (with_reducible first | exact HB.out | apply below_alloc | apply pw_below_drewN | apply below_drew1) | exact HB.out)) hb); have n2_ := Aside0.mk (hbox); have n3_ := Aside0.mk ((by rw [hg]; exact (below_size (by repeat (first | (with_reducible first | exact HB.out | apply below_alloc | apply pw_below_drewN | apply below_drew1) | exact HB.out))) : w.heap.size ≤ gb262)); have n4_ := Aside0.mk ((by rw [hg]; exact (below_size (by repeat (first | (with_reducible first | exact HB.out | apply below_alloc | apply pw_below_drewN | apply below_drew1) | exact HB.out))) : w.heap.size ≤ gb262)); clear HO_3; clear HB; have HO_3 := n0_; have HB := n1_; have BK262 := n2_; have GW262 := n3_; have GE262 := n4_; clear n0_ n1_ n2_ n3_ n4_; clear hb hbox hg; have hcz8_0 : w7.cell? ⟨gb262, 0, none⟩ = some (.string (⟨#[]⟩ : ByteArray)) := (blk_cell BK262.out 0).trans rfl; have hcz8_1 : w7.cell? ⟨gb262, 1, none⟩ = some (.int .u64 0) := (blk_cell BK262.out 1).trans rfl; have hcz8_2 : w7.cell? ⟨gb262, 2, none⟩ = some (.int .u32 0) := (blk_cell BK262.out 2).trans rfl; have hcz8_3 : w7.cell? ⟨gb262, 3, none⟩ = some (.int .u8 0) := (blk_cell BK262.out 3).trans rfl; have hcz8_4 : w7.cell? ⟨gb262, 4, none⟩ = some (.int .u8 0) := (blk_cell BK262.out 4).trans rfl; have hcz8_5 : w7.cell? ⟨gb262, 5, none⟩ = some (.int .u32 0) := (blk_cell BK262.out 5).trans rfl; have hcz8_6 : w7.cell? ⟨gb262, 6, none⟩ = some (.int .u64 0) := (blk_cell BK262.out 6).trans rfl; have hcz8_7 : w7.cell? ⟨gb262, 7, none⟩ = some (.string (⟨#[]⟩ : ByteArray)) := (blk_cell BK262.out 7).trans rfl; have hfz8_0 := blk_frozen BK262.out 0; have hfz8_1 := blk_frozen BK262.out 1; have hfz8_2 := blk_frozen BK262.out 2; have hfz8_3 := blk_frozen BK262.out 3; have hfz8_4 := blk_frozen BK262.out 4; have hfz8_5 := blk_frozen BK262.out 5; have hfz8_6 := blk_frozen BK262.out 6; have hfz8_7 := blk_frozen BK262.out 7) | ((with_reducible refine gate_callee (f := 20) rfl ?_); refine goesL_ (some 14) rfl rfl Try.func20 (by kernel_rfl) rfl #[.agg #[.string ((rd_T41 l0 x8_1).f0), .int .u64 ((rd_T41 l0 x8_1).f1.f0), .int .u32 ((rd_T41 l0 x8_1).f1.f1), .int .u8 ((rd_T41 l0 x8_1).f1.f2), .int .u8 ((rd_T41 l0 x8_1).f2), .int .u32 ((rd_T41 l0 x8_1).f3), .int .u64 ((rd_T41 l0 x8_1).f4), .string ((rd_T41 l0 x8_1).f5)]] rfl (by (try simp only [List.map_toArray, List.map_cons, List.map_nil]); first | done | rfl | (simp only [List.length_drop, List.length_take]; rfl)) ?_; (with_reducible refine (sweep_seen.calls ((rd_T41 l0 x8_1).f0) ((rd_T41 l0 x8_1).f1.f0) ((rd_T41 l0 x8_1).f1.f1) ((rd_T41 l0 x8_1).f1.f2) ((rd_T41 l0 x8_1).f2) ((rd_T41 l0 x8_1).f3) ((rd_T41 l0 x8_1).f4) ((rd_T41 l0 x8_1).f5) t263 t264 t265 t266 t267 _ A5.out).mono ?_); rintro e w9 ⟨rfl, hb⟩; refine ⟨_, rfl, ?_⟩; have n0_ := Aside0.mk (Kd.R_below (by (with_reducible repeat (first | apply Kd.R_alloc | apply Kd.R_drewN | apply Kd.R_drew)); exact (Kd.R_mono (Kd.R_far (p := ⟨gb262, 7, none⟩) (Kd.R_far (p := ⟨gb262, 6, none⟩) (Kd.R_far (p := ⟨gb262, 5, none⟩) (Kd.R_far (p := ⟨gb262, 4, none⟩) (Kd.R_far (p := ⟨gb262, 3, none⟩) (Kd.R_far (p := ⟨gb262, 2, none⟩) (Kd.R_far (p := ⟨gb262, 1, none⟩) (Kd.R_far (p := ⟨gb262, 0, none⟩) (Kd.R_types HO_3.out BK262.out (by decide)) (fun _ hk => hk.2) (.string ((rd_T41 l0 x8_1).f0))) (fun _ hk => hk.2) (.int .u64 ((rd_T41 l0 x8_1).f1.f0))) (fun _ hk => hk.2) (.int .u32 ((rd_T41 l0 x8_1).f1.f1))) (fun _ hk => hk.2) (.int .u8 ((rd_T41 l0 x8_1).f1.f2))) (fun _ hk => hk.2) (.int .u8 ((rd_T41 l0 x8_1).f2))) (fun _ hk => hk.2) (.int .u32 ((rd_T41 l0 x8_1).f3))) (fun _ hk => hk.2) (.int .u64 ((rd_T41 l0 x8_1).f4))) (fun _ hk => hk.2) (.string ((rd_T41 l0 x8_1).f5))) (fun _ h_ => h_.1))) hb); have n1_ := Aside0.mk (blk_below (g := gb262) (o := .cells #[.string ((rd_T41 l0 x8_1).f0), .int .u64 ((rd_T41 l0 x8_1).f1.f0), .int .u32 ((rd_T41 l0 x8_1).f1.f1), .int .u8 ((rd_T41 l0 x8_1).f1.f2), .int .u8 ((rd_T41 l0 x8_1).f2), .int .u32 ((rd_T41 l0 x8_1).f3), .int .u64 ((rd_T41 l0 x8_1).f4), .string ((rd_T41 l0 x8_1).f5)] 41 (0, 0)) (by (with_reducible repeat (first | refine blk_drewN ?_ _ | refine blk_drew ?_ | refine blk_alloc ?_ _)); refine blk_put (cs := #[.string ((rd_T41 l0 x8_1).f0), .int .u64 ((rd_T41 l0 x8_1).f1.f0), .int .u32 ((rd_T41 l0 x8_1).f1.f1), .int .u8 ((rd_T41 l0 x8_1).f1.f2), .int .u8 ((rd_T41 l0 x8_1).f2), .int .u32 ((rd_T41 l0 x8_1).f3), .int .u64 ((rd_T41 l0 x8_1).f4), .string (⟨#[]⟩ : ByteArray)]) ?_ 7 _ rfl; (with_reducible repeat (first | refine blk_drewN ?_ _ | refine blk_drew ?_ | refine blk_alloc ?_ _)); refine blk_put (cs := #[.string ((rd_T41 l0 x8_1).f0), .int .u64 ((rd_T41 l0 x8_1).f1.f0), .int .u32 ((rd_T41 l0 x8_1).f1.f1), .int .u8 ((rd_T41 l0 x8_1).f1.f2), .int .u8 ((rd_T41 l0 x8_1).f2), .int .u32 ((rd_T41 l0 x8_1).f3), .int .u64 0, .string (⟨#[]⟩ : ByteArray)]) ?_ 6 _ rfl; (with_reducible repeat (first | refine blk_drewN ?_ _ | refine blk_drew ?_ | refine blk_alloc ?_ _)); refine blk_put (cs := #[.string ((rd_T41 l0 x8_1).f0), .int .u64 ((rd_T41 l0 x8_1).f1.f0), .int .u32 ((rd_T41 l0 x8_1).f1.f1), .int .u8 ((rd_T41 l0 x8_1).f1.f2), .int .u8 ((rd_T41 l0 x8_1).f2), .int .u32 0, .int .u64 0, .string (⟨#[]⟩ : ByteArray)]) ?_ 5 _ rfl; (with_reducible repeat (first | refine blk_drewN ?_ _ | refine blk_drew ?_ | refine blk_alloc ?_ _)); refine blk_put (cs := #[.string ((rd_T41 l0 x8_1).f0), .int .u64 ((rd_T41 l0 x8_1).f1.f0), .int .u32 ((rd_T41 l0 x8_1).f1.f1), .int .u8 ((rd_T41 l0 x8_1).f1.f2), .int .u8 0, .int .u32 0, .int .u64 0, .string (⟨#[]⟩ : ByteArray)]) ?_ 4 _ rfl; (with_reducible repeat (first | refine blk_drewN ?_ _ | refine blk_drew ?_ | refine blk_alloc ?_ _)); refine blk_put (cs := #[.string ((rd_T41 l0 x8_1).f0), .int .u64 ((rd_T41 l0 x8_1).f1.f0), .int .u32 ((rd_T41 l0 x8_1).f1.f1), .int .u8 0, .int .u8 0, .int .u32 0, .int .u64 0, .string (⟨#[]⟩ : ByteArray)]) ?_ 3 _ rfl; (with_reducible repeat (first | refine blk_drewN ?_ _ | refine blk_drew ?_ | refine blk_alloc ?_ _)); refine blk_put (cs := #[.string ((rd_T41 l0 x8_1).f0), .int .u64 ((rd_T41 l0 x8_1).f1.f0), .int .u32 0, .int .u8 0, .int .u8 0, .int .u32 0, .int .u64 0, .string (⟨#[]⟩ : ByteArray)]) ?_ 2 _ rfl; (with_reducible repeat (first | refine blk_drewN ?_ _ | refine blk_drew ?_ | refine blk_alloc ?_ _)); refine blk_put (cs := #[.string ((rd_T41 l0 x8_1).f0), .int .u64 0, .int .u32 0, .int .u8 0, .int .u8 0, .int .u32 0, .int .u64 0, .string (⟨#[]⟩ : ByteArray)]) ?_ 1 _ rfl; (with_reducible repeat (first | refine blk_drewN ?_ _ | refine blk_drew ?_ | refine blk_alloc ?_ _)); refine blk_put (cs := #[.string (⟨#[]⟩ : ByteArray), .int .u64 0, .int .u32 0, .int .u8 0, .int .u8 0, .int .u32 0, .int .u64 0, .string (⟨#[]⟩ : ByteArray)]) ?_ 0 _ rfl; (with_reducible repeat (first | refine blk_drewN ?_ _ | refine blk_drew ?_ | refine blk_alloc ?_ _)); exact BK262.out) hb); have n2_ := Aside0.mk (below_step (by repeat (first | (with_reducible first | exact HB.out | apply below_alloc | apply pw_below_drewN | apply below_drew1 | refine below_set ?_ GE262.out) | exact HB.out)) hb); clear HO_3; clear BK262; clear HB; have HO_3 := n0_; have BK262 := n1_; have HB := n2_; clear n0_ n1_ n2_; (try clear hb); (try clear hb2); (try clear hk); (try clear hi)) | ((with_reducible refine gate_builtin (b := .append) (xs := #[.tmp 12, .tmp 15]) rfl ?_); at_builtin; refine Kd.R_append k43 (w0 := w) w.heap.size rfl (.tmp 12) (.tmp 15) 23 43 (.agg #[(.string ⟨#[]⟩), (.int .u64 0), (.int .u32 0), (.int .u8 0), (.int .u8 0)]) 40 rfl Try.underlying23 info43 rfl (by decide) (by omega) u3 x3_1 (⟨t263, (⟨t264, t265, t266⟩ : S39), t267⟩ : S43) [.string t263, .int .u64 t264, .int .u32 t265, .int .u8 t266, .int .u8 t267] (fun _ => True) (fun _ => False) rfl rfl ?aP (fun _ hk => hk.elim) ?aF ?aO ?aB ?aS ?aL ?_; (case aP => exact k43_mkM _ _ _ (⟨t263, (⟨t264, t265, t266⟩ : S39), t267⟩ : S43)); (case aB => exact (by repeat (first | (with_reducible first | exact HB.out | apply below_alloc | apply pw_below_drewN | apply below_drew1 | refine below_set ?_ GE262.out) | exact HB.out))); (case aF => exact (fun _ _ => trivial)); (case aO => exact (by (with_reducible repeat (first | apply Kd.R_alloc | apply Kd.R_drewN | apply Kd.R_drew)); exact HO_3.out)); (case aS => exact (below_size (by repeat (first | (with_reducible first | exact HB.out | apply below_alloc | apply pw_below_drewN | apply below_drew1 | refine below_set ?_ GE262.out) | exact HB.out)))); (case aL => have := LMc6.out; omega); intro v269 w10 ho hb hg hat; rw [← Ny268.out] at ho; have n0_ := Aside0.mk (blk_grown (g := gb262) (o := .cells #[.string ((rd_T41 l0 x8_1).f0), .int .u64 ((rd_T41 l0 x8_1).f1.f0), .int .u32 ((rd_T41 l0 x8_1).f1.f1), .int .u8 ((rd_T41 l0 x8_1).f1.f2), .int .u8 ((rd_T41 l0 x8_1).f2), .int .u32 ((rd_T41 l0 x8_1).f3), .int .u64 ((rd_T41 l0 x8_1).f4), .string ((rd_T41 l0 x8_1).f5)] 41 (0, 0)) (by (with_reducible repeat (first | refine blk_drewN ?_ _ | refine blk_drew ?_ | refine blk_alloc ?_ _)); exact BK262.out) hg (Kd.R_ne HO_3.out BK262.out (by decide))); have n1_ := Aside0.mk (hb); have n2_ := Aside0.mk (ho); clear BK262; clear HB; clear HO_3; have BK262 := n0_; have HB := n1_; have HO270 := n2_; clear n0_ n1_ n2_; clear ho hb hg hat))
              go_roundg k1
              case measure => have := HK1.out; omega
              case rel => exact ⟨(y268), (wrap64 (x8_1 + 1)), (by first | rfl | (simp; done) | (simp [*]; done)), H', ⟨by have := HK1.out; omega⟩, ⟨by (with_reducible repeat (first | apply Kd.R_alloc | apply Kd.R_drewN | apply Kd.R_drew)); exact HO270.out⟩, ⟨by repeat (first | (with_reducible first | exact HB.out | apply below_alloc | apply pw_below_drewN | apply below_drew1 | refine below_set ?_ GE262.out) | exact HB.out)⟩⟩
            · rw [if_neg c6] at H
              exact absurd H (by simp)
          · rw [if_neg c4] at H
            exact absurd H (by simp)
        · rw [if_neg c3] at H
          exact absurd H (by simp)
      · rw [if_neg c2] at H
        have c2b0 : decide (x8_1 < (l0.length : Int)) = false := decide_eq_false c2
        clear c2
        obtain rfl := Option.some.inj H
        go_wp2
        go_ret
        exact ⟨_, by first | rfl | (simp [errW_none, errW_some] <;> rfl) | (simp [*, errW_none, errW_some] <;> rfl), by (with_reducible repeat (first | apply Kd.R_alloc | apply Kd.R_drewN | apply Kd.R_drew)); exact HO_3.out, by repeat (first | (with_reducible first | exact HB.out | apply below_alloc | apply pw_below_drewN | apply below_drew1) | exact HB.out)⟩

/-! ### tattlerref15_Summary: function 12 -/
def tattlerref15_Summary.l0 : Nat → List (S41) → List (S43) → Int → Int → Option ((List (S43)))
  | 0, _, _, _, _ => none
  | k + 1, x0, x3, x7, x8 => if x8 < x7 then (if 0 ≤ x8 then (if x8 < (x0.length : Int) then (if x3.length < 3518437208883 then (tattlerref15_Summary.l0 k x0 (x3 ++ [(⟨(rd_T41 x0 x8).f0, (⟨(rd_T41 x0 x8).f1.f0, (rd_T41 x0 x8).f1.f1, (rd_T41 x0 x8).f1.f2⟩ : S39), (rd_T41 x0 x8).f2⟩ : S43)]) x7 (wrap64 (x8 + 1))) else (none)) else (none)) else (none)) else (some x3)
def tattlerref15_Summary.f (k : Nat) (l0 : List (S41)) : Option ((List (S43))) := tattlerref15_Summary.l0 k l0 (([] : List (S43))) (l0.length : Int) 0
theorem tattlerref15_Summary.mono_l : ∀ k, (∀ y0 y1 y2 y3, LeO (tattlerref15_Summary.l0 k y0 y1 y2 y3) (tattlerref15_Summary.l0 (k + 1) y0 y1 y2 y3))
  | 0 => fun _ _ _ _ r h => by simp [tattlerref15_Summary.l0] at h
  | k + 1 => by
    have ih0 := tattlerref15_Summary.mono_l k
    · intro y0 y1 y2 y3
      unfold tattlerref15_Summary.l0
      repeat' first
      | (with_reducible exact ih0 _ _ _ _)
      | (with_reducible exact LeO.refl _)
      | (with_reducible exact LeO.none _)
      | (with_reducible refine LeO.ite ?_ ?_)
      | (with_reducible refine LeO.bind ?_ (fun _ => ?_))
      | exact ih0 _ _ _ _
      | exact LeO.none _
      | refine LeO.ite ?_ ?_
      | refine LeO.bind ?_ (fun _ => ?_)
theorem tattlerref15_Summary.mono : ∀ a0 k, LeO (tattlerref15_Summary.f k a0) (tattlerref15_Summary.f (k + 1) a0) := by
  intro a0 k
  have ih0 := tattlerref15_Summary.mono_l k
  unfold tattlerref15_Summary.f
  repeat' first
      | (with_reducible exact ih0 _ _ _ _)
      | (with_reducible exact LeO.refl _)
      | (with_reducible exact LeO.none _)
      | (with_reducible refine LeO.ite ?_ ?_)
      | (with_reducible refine LeO.bind ?_ (fun _ => ?_))
      | exact ih0 _ _ _ _
      | exact LeO.none _
      | refine LeO.ite ?_ ?_
      | refine LeO.bind ?_ (fun _ => ?_)
def tattlerref15_Summary.T5 : Bool × List (List Nat × List Nat) := (true, [([], []), ([], []), ([], []), ([1, 2], [1, 2]), ([3], [3]), ([4], [4]), ([], []), ([], []), ([6, 7], [6, 7]), ([8], [8]), ([9], [9]), ([], []), ([], []), ([11, 12], [11, 12]), ([13], [13]), ([14], [14]), ([5, 10, 15], [5, 10, 15]), ([16], [16]), ([0, 17], [0, 17]), ([18, 18, 0, 1, 2, 3, 4, 5, 6, 7, 8, 9, 10, 11, 12, 13, 14, 15, 16, 17, 18], [0, 18])])
def tattlerref15_Summary.B5 : List Nat := [0, 0, 0, 6, 14, 30, 0, 0, 192, 448, 960, 0, 0, 6144, 14336, 30720, 65534, 131070, 262143, 524287]
theorem tattlerref15_Summary.tab5 : rtab .any (opsOf Try.f12 5) = tattlerref15_Summary.T5 := by kernel_rfl
theorem tattlerref15_Summary.bits5 : waitsOk tattlerref15_Summary.T5.2 tattlerref15_Summary.B5 = true := by kernel_rfl
set_option maxHeartbeats 8000000 in
set_option maxRecDepth 100000 in
theorem tattlerref15_Summary.calls (k : Nat) (A0 : Option Addr) (c0 : Nat) (l0 : List (S41)) (r : List (S43)) (w : World) (hr0 : Kd.C k41 w A0 l0.length l0) (hc0 : l0.length ≤ c0) (h : tattlerref15_Summary.f k l0 = some r) :
    Calls Try.prog 12 #[.slice A0 l0.length c0] w fun e w' => ∃ v0_ : Value, e = .returned (v0_) ∧ Kd.R k43 43 w' w.heap.size (fun _ => True) v0_ r ∧ Below w.heap.size w w' := by
  have hu39 := Try.underlying39
  have hu43 := Try.underlying43
  have HR0 := Aside0.mk hr0
  have HC0 := Aside0.mk hc0
  clear hr0 hc0
  have HB := Aside0.mk (Below.refl w.heap.size w)
  have H : (tattlerref15_Summary.l0 k l0 (([] : List (S43))) (l0.length : Int) 0) = some r := h
  clear h
  obtain ⟨y271, hy271⟩ : ∃ y_ : List (S43), y_ = (([] : List (S43))) := ⟨_, rfl⟩
  replace H : (tattlerref15_Summary.l0 k l0 y271 (l0.length : Int) 0) = some r := by first | (rw [hy271]; with_reducible exact H) | (have H2_ := (Option.bind_some _ _).symm.trans H; rw [hy271]; with_reducible exact H2_) | (have H2_ := (Option.bind_some _ _).symm.trans H; with_reducible exact H2_) | with_reducible exact H | (rw [hy271]; exact H) | exact H
  have Ny271 := Aside0.mk hy271
  clear hy271
  have H' := Aside0.mk H
  clear H
  go_enter Try.func12, Try.ntmps12
  go_wp2_with (first | ((with_reducible refine gate_dst (N := 5) rfl ?_); refine Kd.R_lit k43 _ 43 ?hg (N := 5) ?hd (xs := ([] : List (S43))) (inner := []) (ok := fun _ => True) (okp := fun _ => True) ?hr ?hp (fun _ hk => hk) trivial (Below.refl _ _) (Nat.le_refl _) (by simp) ?_; (case hd => rfl); (case hg => rfl); (case hr => first | (go_simp; done) | (go_simp; rfl)); (case hp => exact (Reps.none _ _)); intro v272 w2 ho3 hb hg_ hnew_; clear hg_ hnew_; (first | rw [← Ny271.out] at ho3 | (simp only [Int.reduceToNat] at ho3; rw [← Ny271.out] at ho3)); have n0_ := Aside0.mk (Kd.R_lower ho3 (below_size (by repeat (first | (with_reducible first | exact HB.out | apply below_alloc | apply pw_below_drewN | apply below_drew1) | exact HB.out)))); have n1_ := Aside0.mk (below_step (by repeat (first | (with_reducible first | exact HB.out | apply below_alloc | apply pw_below_drewN | apply below_drew1) | exact HB.out)) hb); clear HB; have HO273 := n0_; have HB := n1_; clear n0_ n1_; clear hb ho3))
  go_loopg [3, 8] k (fun kq v3 v8 w' => ∃ (x3_1 : List (S43)) (x8_1 : Int), v8 = .int .i64 x8_1 ∧ Aside0 (tattlerref15_Summary.l0 kq l0 x3_1 (l0.length : Int) x8_1 = some r) ∧ Aside0 (kq ≤ k) ∧ Aside0 (Kd.R k43 43 w' w.heap.size (fun _ => True) v3 x3_1) ∧ Aside0 (Below w.heap.size w w'))
  case atStart => exact ⟨(y271), (0), (by first | rfl | (simp; done) | (simp [*]; done)), H', ⟨Nat.le_refl _⟩, ⟨by (with_reducible repeat (first | apply Kd.R_alloc | apply Kd.R_drewN | apply Kd.R_drew)); exact HO273.out⟩, ⟨by repeat (first | (with_reducible first | exact HB.out | apply below_alloc | apply pw_below_drewN | apply below_drew1) | exact HB.out)⟩⟩
  case round =>
    clear H'
    try clear c1
    try clear p2
    obtain ⟨x3_1, x8_1, rfl, HA, HK1, HO_3, HB⟩ := hrel
    cases gk with
    | zero => exact absurd HA.out (by simp [tattlerref15_Summary.l0])
    | succ k1 =>
      have H := HA.out
      clear HA
      simp only [tattlerref15_Summary.l0] at H
      by_cases c4 : x8_1 < (l0.length : Int)
      · rw [if_pos c4] at H
        have c4b0 : decide (x8_1 < (l0.length : Int)) = true := decide_eq_true c4
        clear c4
        by_cases c5 : 0 ≤ x8_1
        · rw [if_pos c5] at H
          have c5b0 : decide (0 ≤ x8_1) = true := decide_eq_true c5
          clear c5
          by_cases c6 : x8_1 < (l0.length : Int)
          · rw [if_pos c6] at H
            have c6b0 : decide (x8_1 < (l0.length : Int)) = true := decide_eq_true c6
            clear c6
            by_cases c7 : x3_1.length < 3518437208883
            · rw [if_pos c7] at H
              have LMc7 := Aside0.mk c7
              clear c7
              obtain ⟨y277, hy277⟩ : ∃ y_ : List (S43), y_ = (x3_1 ++ [(⟨(rd_T41 l0 x8_1).f0, (⟨(rd_T41 l0 x8_1).f1.f0, (rd_T41 l0 x8_1).f1.f1, (rd_T41 l0 x8_1).f1.f2⟩ : S39), (rd_T41 l0 x8_1).f2⟩ : S43)]) := ⟨_, rfl⟩
              replace H : (tattlerref15_Summary.l0 k1 l0 y277 (l0.length : Int) (wrap64 (x8_1 + 1))) = some r := by first | (rw [hy277]; with_reducible exact H) | (have H2_ := (Option.bind_some _ _).symm.trans H; rw [hy277]; with_reducible exact H2_) | (have H2_ := (Option.bind_some _ _).symm.trans H; with_reducible exact H2_) | with_reducible exact H | (rw [hy277]; exact H) | exact H
              have Ny277 := Aside0.mk hy277
              clear hy277
              have H' := Aside0.mk H
              clear H
              try go_wp2
              have n0_ := Aside0.mk (Kd.R_drew HO_3.out)
              have n1_ := Aside0.mk (below_drew1 HB.out)
              clear HO_3
              clear HB
              have HO_3 := n0_
              have HB := n1_
              clear n0_ n1_
              have p274 : 0 ≤ (x8_1 : Int) := of_decide_eq_true (by first | (with_reducible assumption) | assumption)
              have q274 : x8_1 < (l0.length : Int) := of_decide_eq_true (by first | (with_reducible assumption) | assumption)
              obtain ⟨ad274, e274, hx274_0, hx274_1, hx274_2, hx274_3, hx274_4, hx274_5, hx274_6, hx274_7⟩ := at_T41 HR0.out x8_1 p274 q274
              have hw274_7 := hx274_7
              have hw274_6 := hx274_6
              have hw274_5 := hx274_5
              have hw274_4 := hx274_4
              have hw274_3 := hx274_3
              have hw274_2 := hx274_2
              have hw274_1 := hx274_1
              have hw274_0 := hx274_0
              cases e274
              replace hx274_0 := (HB.out.cell (World.block_lt_of_cell? w _ hx274_0)).trans hx274_0
              replace hx274_1 := (HB.out.cell (World.block_lt_of_cell? w _ hx274_1)).trans hx274_1
              replace hx274_2 := (HB.out.cell (World.block_lt_of_cell? w _ hx274_2)).trans hx274_2
              replace hx274_3 := (HB.out.cell (World.block_lt_of_cell? w _ hx274_3)).trans hx274_3
              replace hx274_4 := (HB.out.cell (World.block_lt_of_cell? w _ hx274_4)).trans hx274_4
              replace hx274_5 := (HB.out.cell (World.block_lt_of_cell? w _ hx274_5)).trans hx274_5
              replace hx274_6 := (HB.out.cell (World.block_lt_of_cell? w _ hx274_6)).trans hx274_6
              replace hx274_7 := (HB.out.cell (World.block_lt_of_cell? w _ hx274_7)).trans hx274_7
              replace p274 := eq_true p274
              replace q274 := eq_true q274
              have p275 : 0 ≤ (x8_1 : Int) := of_decide_eq_true (by first | (with_reducible assumption) | assumption)
              have q275 : x8_1 < (l0.length : Int) := of_decide_eq_true (by first | (with_reducible assumption) | assumption)
              obtain ⟨ad275, e275, hx275_0, hx275_1, hx275_2, hx275_3, hx275_4, hx275_5, hx275_6, hx275_7⟩ := at_T41 HR0.out x8_1 p275 q275
              have hw275_7 := hx275_7
              have hw275_6 := hx275_6
              have hw275_5 := hx275_5
              have hw275_4 := hx275_4
              have hw275_3 := hx275_3
              have hw275_2 := hx275_2
              have hw275_1 := hx275_1
              have hw275_0 := hx275_0
              obtain rfl : ad274 = ad275 := (by injection e275)
              replace hx275_0 := (HB.out.cell (World.block_lt_of_cell? w _ hx275_0)).trans hx275_0
              replace hx275_1 := (HB.out.cell (World.block_lt_of_cell? w _ hx275_1)).trans hx275_1
              replace hx275_2 := (HB.out.cell (World.block_lt_of_cell? w _ hx275_2)).trans hx275_2
              replace hx275_3 := (HB.out.cell (World.block_lt_of_cell? w _ hx275_3)).trans hx275_3
              replace hx275_4 := (HB.out.cell (World.block_lt_of_cell? w _ hx275_4)).trans hx275_4
              replace hx275_5 := (HB.out.cell (World.block_lt_of_cell? w _ hx275_5)).trans hx275_5
              replace hx275_6 := (HB.out.cell (World.block_lt_of_cell? w _ hx275_6)).trans hx275_6
              replace hx275_7 := (HB.out.cell (World.block_lt_of_cell? w _ hx275_7)).trans hx275_7
              replace p275 := eq_true p275
              replace q275 := eq_true q275
              have p276 : 0 ≤ (x8_1 : Int) := of_decide_eq_true (by first | (with_reducible assumption) | assumption)
              have q276 : x8_1 < (l0.length : Int) := of_decide_eq_true (by first | (with_reducible assumption) | assumption)
              obtain ⟨ad276, e276, hx276_0, hx276_1, hx276_2, hx276_3, hx276_4, hx276_5, hx276_6, hx276_7⟩ := at_T41 HR0.out x8_1 p276 q276
              have hw276_7 := hx276_7
              have hw276_6 := hx276_6
              have hw276_5 := hx276_5
              have hw276_4 := hx276_4
              have hw276_3 := hx276_3
              have hw276_2 := hx276_2
              have hw276_1 := hx276_1
              have hw276_0 := hx276_0
              obtain rfl : ad274 = ad276 := (by injection e276)
              replace hx276_0 := (HB.out.cell (World.block_lt_of_cell? w _ hx276_0)).trans hx276_0
              replace hx276_1 := (HB.out.cell (World.block_lt_of_cell? w _ hx276_1)).trans hx276_1
              replace hx276_2 := (HB.out.cell (World.block_lt_of_cell? w _ hx276_2)).trans hx276_2
              replace hx276_3 := (HB.out.cell (World.block_lt_of_cell? w _ hx276_3)).trans hx276_3
              replace hx276_4 := (HB.out.cell (World.block_lt_of_cell? w _ hx276_4)).trans hx276_4
              replace hx276_5 := (HB.out.cell (World.block_lt_of_cell? w _ hx276_5)).trans hx276_5
              replace hx276_6 := (HB.out.cell (World.block_lt_of_cell? w _ hx276_6)).trans hx276_6
              replace hx276_7 := (HB.out.cell (World.block_lt_of_cell? w _ hx276_7)).trans hx276_7
              replace p276 := eq_true p276
              replace q276 := eq_true q276
              refine start_ (n := 20) (S := fun w' => w'.cell? (ad274.add ((x8_1).toNat * 8)) = some (.string ((rd_T41 l0 x8_1).f0)) ∧ w'.cell? ⟨(ad274.add ((x8_1).toNat * 8)).block, (ad274.add ((x8_1).toNat * 8)).off + 1, none⟩ = some (.int .u64 ((rd_T41 l0 x8_1).f1.f0)) ∧ w'.cell? ⟨(ad274.add ((x8_1).toNat * 8)).block, (ad274.add ((x8_1).toNat * 8)).off + 2, none⟩ = some (.int .u32 ((rd_T41 l0 x8_1).f1.f1)) ∧ w'.cell? ⟨(ad274.add ((x8_1).toNat * 8)).block, (ad274.add ((x8_1).toNat * 8)).off + 3, none⟩ = some (.int .u8 ((rd_T41 l0 x8_1).f1.f2)) ∧ w'.cell? ⟨(ad274.add ((x8_1).toNat * 8)).block, (ad274.add ((x8_1).toNat * 8)).off + 4, none⟩ = some (.int .u8 ((rd_T41 l0 x8_1).f2)) ∧ w'.cell? ⟨(ad274.add ((x8_1).toNat * 8)).block, (ad274.add ((x8_1).toNat * 8)).off + 5, none⟩ = some (.int .u32 ((rd_T41 l0 x8_1).f3)) ∧ w'.cell? ⟨(ad274.add ((x8_1).toNat * 8)).block, (ad274.add ((x8_1).toNat * 8)).off + 6, none⟩ = some (.int .u64 ((rd_T41 l0 x8_1).f4)) ∧ w'.cell? ⟨(ad274.add ((x8_1).toNat * 8)).block, (ad274.add ((x8_1).toNat * 8)).off + 7, none⟩ = some (.string ((rd_T41 l0 x8_1).f5)) ∧ w'.cell? (ad274.add ((x8_1).toNat * 8)) = some (.string ((rd_T41 l0 x8_1).f0)) ∧ w'.cell? ⟨(ad274.add ((x8_1).toNat * 8)).block, (ad274.add ((x8_1).toNat * 8)).off + 1, none⟩ = some (.int .u64 ((rd_T41 l0 x8_1).f1.f0)) ∧ w'.cell? ⟨(ad274.add ((x8_1).toNat * 8)).block, (ad274.add ((x8_1).toNat * 8)).off + 2, none⟩ = some (.int .u32 ((rd_T41 l0 x8_1).f1.f1)) ∧ w'.cell? ⟨(ad274.add ((x8_1).toNat * 8)).block, (ad274.add ((x8_1).toNat * 8)).off + 3, none⟩ = some (.int .u8 ((rd_T41 l0 x8_1).f1.f2)) ∧ w'.cell? ⟨(ad274.add ((x8_1).toNat * 8)).block, (ad274.add ((x8_1).toNat * 8)).off + 4, none⟩ = some (.int .u8 ((rd_T41 l0 x8_1).f2)) ∧ w'.cell? ⟨(ad274.add ((x8_1).toNat * 8)).block, (ad274.add ((x8_1).toNat * 8)).off + 5, none⟩ = some (.int .u32 ((rd_T41 l0 x8_1).f3)) ∧ w'.cell? ⟨(ad274.add ((x8_1).toNat * 8)).block, (ad274.add ((x8_1).toNat * 8)).off + 6, none⟩ = some (.int .u64 ((rd_T41 l0 x8_1).f4)) ∧ w'.cell? ⟨(ad274.add ((x8_1).toNat * 8)).block, (ad274.add ((x8_1).toNat * 8)).off + 7, none⟩ = some (.string ((rd_T41 l0 x8_1).f5)) ∧ w'.cell? (ad274.add ((x8_1).toNat * 8)) = some (.string ((rd_T41 l0 x8_1).f0)) ∧ w'.cell? ⟨(ad274.add ((x8_1).toNat * 8)).block, (ad274.add ((x8_1).toNat * 8)).off + 1, none⟩ = some (.int .u64 ((rd_T41 l0 x8_1).f1.f0)) ∧ w'.cell? ⟨(ad274.add ((x8_1).toNat * 8)).block, (ad274.add ((x8_1).toNat * 8)).off + 2, none⟩ = some (.int .u32 ((rd_T41 l0 x8_1).f1.f1)) ∧ w'.cell? ⟨(ad274.add ((x8_1).toNat * 8)).block, (ad274.add ((x8_1).toNat * 8)).off + 3, none⟩ = some (.int .u8 ((rd_T41 l0 x8_1).f1.f2)) ∧ w'.cell? ⟨(ad274.add ((x8_1).toNat * 8)).block, (ad274.add ((x8_1).toNat * 8)).off + 4, none⟩ = some (.int .u8 ((rd_T41 l0 x8_1).f2)) ∧ w'.cell? ⟨(ad274.add ((x8_1).toNat * 8)).block, (ad274.add ((x8_1).toNat * 8)).off + 5, none⟩ = some (.int .u32 ((rd_T41 l0 x8_1).f3)) ∧ w'.cell? ⟨(ad274.add ((x8_1).toNat * 8)).block, (ad274.add ((x8_1).toNat * 8)).off + 6, none⟩ = some (.int .u64 ((rd_T41 l0 x8_1).f4)) ∧ w'.cell? ⟨(ad274.add ((x8_1).toNat * 8)).block, (ad274.add ((x8_1).toNat * 8)).off + 7, none⟩ = some (.string ((rd_T41 l0 x8_1).f5))) (ds := []) #[false, false, false, false, false, false, false, false, false, false, false, false, false, false, false, false, false, false, false, false] (by kernel_rfl) rfl rfl ⟨((HB.out.cell (World.block_lt_of_cell? w _ hw274_0)).trans hw274_0), ((HB.out.cell (World.block_lt_of_cell? w _ hw274_1)).trans hw274_1), ((HB.out.cell (World.block_lt_of_cell? w _ hw274_2)).trans hw274_2), ((HB.out.cell (World.block_lt_of_cell? w _ hw274_3)).trans hw274_3), ((HB.out.cell (World.block_lt_of_cell? w _ hw274_4)).trans hw274_4), ((HB.out.cell (World.block_lt_of_cell? w _ hw274_5)).trans hw274_5), ((HB.out.cell (World.block_lt_of_cell? w _ hw274_6)).trans hw274_6), ((HB.out.cell (World.block_lt_of_cell? w _ hw274_7)).trans hw274_7), ((HB.out.cell (World.block_lt_of_cell? w _ hw275_0)).trans hw275_0), ((HB.out.cell (World.block_lt_of_cell? w _ hw275_1)).trans hw275_1), ((HB.out.cell (World.block_lt_of_cell? w _ hw275_2)).trans hw275_2), ((HB.out.cell (World.block_lt_of_cell? w _ hw275_3)).trans hw275_3), ((HB.out.cell (World.block_lt_of_cell? w _ hw275_4)).trans hw275_4), ((HB.out.cell (World.block_lt_of_cell? w _ hw275_5)).trans hw275_5), ((HB.out.cell (World.block_lt_of_cell? w _ hw275_6)).trans hw275_6), ((HB.out.cell (World.block_lt_of_cell? w _ hw275_7)).trans hw275_7), ((HB.out.cell (World.block_lt_of_cell? w _ hw276_0)).trans hw276_0), ((HB.out.cell (World.block_lt_of_cell? w _ hw276_1)).trans hw276_1), ((HB.out.cell (World.block_lt_of_cell? w _ hw276_2)).trans hw276_2), ((HB.out.cell (World.block_lt_of_cell? w _ hw276_3)).trans hw276_3), ((HB.out.cell (World.block_lt_of_cell? w _ hw276_4)).trans hw276_4), ((HB.out.cell (World.block_lt_of_cell? w _ hw276_5)).trans hw276_5), ((HB.out.cell (World.block_lt_of_cell? w _ hw276_6)).trans hw276_6), ((HB.out.cell (World.block_lt_of_cell? w _ hw276_7)).trans hw276_7)⟩ (fun hHeld => ?_); refine with_tabW tattlerref15_Summary.tab5 tattlerref15_Summary.bits5 (fun HT_ HW_ => ?_)
              generalize wr.drew = w8 at HO_3 HB hx274_0 hx274_1 hx274_2 hx274_3 hx274_4 hx274_5 hx274_6 hx274_7 hx275_0 hx275_1 hx275_2 hx275_3 hx275_4 hx275_5 hx275_6 hx275_7 hx276_0 hx276_1 hx276_2 hx276_3 hx276_4 hx276_5 hx276_6 hx276_7 hHeld ⊢
              refine pure_ (i := 0) (N := some 11) (v := ?_) (a' := ?_) #[true, false, false, false, false, false, false, false, false, false, false, false, false, false, false, false, false, false, false, false] rfl rfl (any_of HT_.out (by kernel_rfl)) (fun _ _ _ h => h) (Or.inl ⟨by rfl, ?_⟩) ?_ ?_
              rotate_left
              · intro w'
                go_simp
                with_reducible rfl
              rotate_left
              · simp only [Act.put, List.setIfInBounds_toArray, List.set_cons_zero, List.set_cons_succ, i64_w, i32_w]
                rfl
              refine pure_ (i := 1) (N := some 12) (v := ?_) (a' := ?_) #[true, true, false, false, false, false, false, false, false, false, false, false, false, false, false, false, false, false, false, false] rfl rfl (any_of HT_.out (by kernel_rfl)) (fun _ _ _ h => h) (Or.inl ⟨by rfl, ?_⟩) ?_ ?_
              rotate_left
              · intro w'
                go_simp
                with_reducible rfl
              rotate_left
              · simp only [Act.put, List.setIfInBounds_toArray, List.set_cons_zero, List.set_cons_succ, i64_w, i32_w]
                rfl
              refine pure_ (i := 2) (N := some 13) (v := ?_) (a' := ?_) #[true, true, true, false, false, false, false, false, false, false, false, false, false, false, false, false, false, false, false, false] rfl rfl (any_of HT_.out (by kernel_rfl)) (fun _ _ _ h => h) (Or.inl ⟨by rfl, ?_⟩) ?_ ?_
              rotate_left
              · intro w'
                go_simp
                with_reducible rfl
              rotate_left
              · simp only [Act.put, List.setIfInBounds_toArray, List.set_cons_zero, List.set_cons_succ, i64_w, i32_w]
                rfl
              refine pure_ (i := 3) (N := some 14) (v := ?_) (a' := ?_) #[true, true, true, true, false, false, false, false, false, false, false, false, false, false, false, false, false, false, false, false] rfl rfl (any_of HT_.out (by kernel_rfl)) (fun _ _ _ h => h) (Or.inl ⟨by rfl, ?_⟩) ?_ ?_
              rotate_left
              · intro w'
                go_simp
                with_reducible rfl
              rotate_left
              · simp only [Act.put, List.setIfInBounds_toArray, List.set_cons_zero, List.set_cons_succ, i64_w, i32_w]
                rfl
              refine pure_ (i := 4) (N := some 15) (v := ?_) (a' := ?_) #[true, true, true, true, true, false, false, false, false, false, false, false, false, false, false, false, false, false, false, false] rfl rfl (any_of HT_.out (by kernel_rfl)) (fun _ _ _ h => h) (Or.inl ⟨by rfl, ?_⟩) ?_ ?_
              rotate_left
              · intro w'
                go_simp
                with_reducible rfl
              rotate_left
              · simp only [Act.put, List.setIfInBounds_toArray, List.set_cons_zero, List.set_cons_succ, i64_w, i32_w]
                rfl
              refine pure_ (i := 6) (N := some 17) (v := ?_) (a' := ?_) #[true, true, true, true, true, false, true, false, false, false, false, false, false, false, false, false, false, false, false, false] rfl rfl (any_of HT_.out (by kernel_rfl)) (fun _ _ _ h => h) (Or.inl ⟨by rfl, ?_⟩) ?_ ?_
              rotate_left
              · intro w'
                go_simp
                with_reducible rfl
              rotate_left
              · simp only [Act.put, List.setIfInBounds_toArray, List.set_cons_zero, List.set_cons_succ, i64_w, i32_w]
                rfl
              refine pure_ (i := 7) (N := some 18) (v := ?_) (a' := ?_) #[true, true, true, true, true, false, true, true, false, false, false, false, false, false, false, false, false, false, false, false] rfl rfl (any_of HT_.out (by kernel_rfl)) (fun _ _ _ h => h) (Or.inl ⟨by rfl, ?_⟩) ?_ ?_
              rotate_left
              · intro w'
                go_simp
                with_reducible rfl
              rotate_left
              · simp only [Act.put, List.setIfInBounds_toArray, List.set_cons_zero, List.set_cons_succ, i64_w, i32_w]
                rfl
              refine pure_ (i := 8) (N := some 19) (v := ?_) (a' := ?_) #[true, true, true, true, true, false, true, true, true, false, false, false, false, false, false, false, false, false, false, false] rfl rfl (any_of HT_.out (by kernel_rfl)) (fun _ _ _ h => h) (Or.inl ⟨by rfl, ?_⟩) ?_ ?_
              rotate_left
              · intro w'
                go_simp
                with_reducible rfl
              rotate_left
              · simp only [Act.put, List.setIfInBounds_toArray, List.set_cons_zero, List.set_cons_succ, i64_w, i32_w]
                rfl
              refine pure_ (i := 9) (N := some 20) (v := ?_) (a' := ?_) #[true, true, true, true, true, false, true, true, true, true, false, false, false, false, false, false, false, false, false, false] rfl rfl (any_of HT_.out (by kernel_rfl)) (fun _ _ _ h => h) (Or.inl ⟨by rfl, ?_⟩) ?_ ?_
              rotate_left
              · intro w'
                go_simp
                with_reducible rfl
              rotate_left
              · simp only [Act.put, List.setIfInBounds_toArray, List.set_cons_zero, List.set_cons_succ, i64_w, i32_w]
                rfl
              refine pure_ (i := 11) (N := some 22) (v := ?_) (a' := ?_) #[true, true, true, true, true, false, true, true, true, true, false, true, false, false, false, false, false, false, false, false] rfl rfl (any_of HT_.out (by kernel_rfl)) (fun _ _ _ h => h) (Or.inl ⟨by rfl, ?_⟩) ?_ ?_
              rotate_left
              · intro w'
                go_simp
                with_reducible rfl
              rotate_left
              · simp only [Act.put, List.setIfInBounds_toArray, List.set_cons_zero, List.set_cons_succ, i64_w, i32_w]
                rfl
              refine pure_ (i := 12) (N := some 23) (v := ?_) (a' := ?_) #[true, true, true, true, true, false, true, true, true, true, false, true, true, false, false, false, false, false, false, false] rfl rfl (any_of HT_.out (by kernel_rfl)) (fun _ _ _ h => h) (Or.inl ⟨by rfl, ?_⟩) ?_ ?_
              rotate_left
              · intro w'
                go_simp
                with_reducible rfl
              rotate_left
              · simp only [Act.put, List.setIfInBounds_toArray, List.set_cons_zero, List.set_cons_succ, i64_w, i32_w]
                rfl
              refine pure_ (i := 13) (N := some 24) (v := ?_) (a' := ?_) #[true, true, true, true, true, false, true, true, true, true, false, true, true, true, false, false, false, false, false, false] rfl rfl (any_of HT_.out (by kernel_rfl)) (fun _ _ _ h => h) (Or.inl ⟨by rfl, ?_⟩) ?_ ?_
              rotate_left
              · intro w'
                go_simp
                with_reducible rfl
              rotate_left
              · simp only [Act.put, List.setIfInBounds_toArray, List.set_cons_zero, List.set_cons_succ, i64_w, i32_w]
                rfl
              refine pure_ (i := 14) (N := some 25) (v := ?_) (a' := ?_) #[true, true, true, true, true, false, true, true, true, true, false, true, true, true, true, false, false, false, false, false] rfl rfl (any_of HT_.out (by kernel_rfl)) (fun _ _ _ h => h) (Or.inl ⟨by rfl, ?_⟩) ?_ ?_
              rotate_left
              · intro w'
                go_simp
                with_reducible rfl
              rotate_left
              · simp only [Act.put, List.setIfInBounds_toArray, List.set_cons_zero, List.set_cons_succ, i64_w, i32_w]
                rfl
              refine take_ (i := 5) (N := some 16) (v := ?_) (a' := ?_) #[true, true, true, true, true, true, true, true, true, true, false, true, true, true, true, false, false, false, false, false] rfl rfl (take_ofW HT_.out HW_.out (by kernel_rfl)) (fun _ _ _ h => h) (Or.inl ⟨by rfl, ?_⟩) hHeld ?_ ?_
              rotate_left
              · rintro w' ⟨s0, s1, s2, s3, s4, s5, s6, s7, s8, s9, s10, s11, s12, s13, s14, s15, s16, s17, s18, s19, s20, s21, s22, s23⟩
                go_simp
                with_reducible rfl
              rotate_left
              · simp only [Act.put, List.setIfInBounds_toArray, List.set_cons_zero, List.set_cons_succ, i64_w, i32_w]
                rfl
              refine take_ (i := 10) (N := some 21) (v := ?_) (a' := ?_) #[true, true, true, true, true, true, true, true, true, true, true, true, true, true, true, false, false, false, false, false] rfl rfl (take_ofW HT_.out HW_.out (by kernel_rfl)) (fun _ _ _ h => h) (Or.inl ⟨by rfl, ?_⟩) hHeld ?_ ?_
              rotate_left
              · rintro w' ⟨s0, s1, s2, s3, s4, s5, s6, s7, s8, s9, s10, s11, s12, s13, s14, s15, s16, s17, s18, s19, s20, s21, s22, s23⟩
                go_simp
                with_reducible rfl
              rotate_left
              · simp only [Act.put, List.setIfInBounds_toArray, List.set_cons_zero, List.set_cons_succ, i64_w, i32_w]
                rfl
              refine take_ (i := 15) (N := some 26) (v := ?_) (a' := ?_) #[true, true, true, true, true, true, true, true, true, true, true, true, true, true, true, true, false, false, false, false] rfl rfl (take_ofW HT_.out HW_.out (by kernel_rfl)) (fun _ _ _ h => h) (Or.inl ⟨by rfl, ?_⟩) hHeld ?_ ?_
              rotate_left
              · rintro w' ⟨s0, s1, s2, s3, s4, s5, s6, s7, s8, s9, s10, s11, s12, s13, s14, s15, s16, s17, s18, s19, s20, s21, s22, s23⟩
                go_simp
                with_reducible rfl
              rotate_left
              · simp only [Act.put, List.setIfInBounds_toArray, List.set_cons_zero, List.set_cons_succ, i64_w, i32_w]
                rfl
              refine pure_ (i := 16) (N := some 27) (v := ?_) (a' := ?_) #[true, true, true, true, true, true, true, true, true, true, true, true, true, true, true, true, true, false, false, false] rfl rfl (any_of HT_.out (by kernel_rfl)) (fun _ _ _ h => h) (Or.inl ⟨by rfl, ?_⟩) ?_ ?_
              rotate_left
              · intro w'
                go_simp
                with_reducible rfl
              rotate_left
              · simp only [Act.put, List.setIfInBounds_toArray, List.set_cons_zero, List.set_cons_succ, i64_w, i32_w]
                rfl
              refine one_ (i := 17) (N := some 28) #[true, true, true, true, true, true, true, true, true, true, true, true, true, true, true, true, true, true, false, false] rfl rfl (one_of HT_.out (by kernel_rfl)) (by decide) (fun K hK => ?_)
              refine value_ (w1 := ?_) (v := ?_) (by rfl) rfl ?_ ?_
              rotate_left 2
              · go_simp
                constructor
                · rfl
                · rfl
              refine hK.out _ _ ⟨(World.cell?_alloc_lt _ _ _ (World.block_lt_of_cell? _ _ (((HB.out.cell (World.block_lt_of_cell? w _ hw274_0)).trans hw274_0)))).trans (((HB.out.cell (World.block_lt_of_cell? w _ hw274_0)).trans hw274_0)), (World.cell?_alloc_lt _ _ _ (World.block_lt_of_cell? _ _ (((HB.out.cell (World.block_lt_of_cell? w _ hw274_1)).trans hw274_1)))).trans (((HB.out.cell (World.block_lt_of_cell? w _ hw274_1)).trans hw274_1)), (World.cell?_alloc_lt _ _ _ (World.block_lt_of_cell? _ _ (((HB.out.cell (World.block_lt_of_cell? w _ hw274_2)).trans hw274_2)))).trans (((HB.out.cell (World.block_lt_of_cell? w _ hw274_2)).trans hw274_2)), (World.cell?_alloc_lt _ _ _ (World.block_lt_of_cell? _ _ (((HB.out.cell (World.block_lt_of_cell? w _ hw274_3)).trans hw274_3)))).trans (((HB.out.cell (World.block_lt_of_cell? w _ hw274_3)).trans hw274_3)), (World.cell?_alloc_lt _ _ _ (World.block_lt_of_cell? _ _ (((HB.out.cell (World.block_lt_of_cell? w _ hw274_4)).trans hw274_4)))).trans (((HB.out.cell (World.block_lt_of_cell? w _ hw274_4)).trans hw274_4)), (World.cell?_alloc_lt _ _ _ (World.block_lt_of_cell? _ _ (((HB.out.cell (World.block_lt_of_cell? w _ hw274_5)).trans hw274_5)))).trans (((HB.out.cell (World.block_lt_of_cell? w _ hw274_5)).trans hw274_5)), (World.cell?_alloc_lt _ _ _ (World.block_lt_of_cell? _ _ (((HB.out.cell (World.block_lt_of_cell? w _ hw274_6)).trans hw274_6)))).trans (((HB.out.cell (World.block_lt_of_cell? w _ hw274_6)).trans hw274_6)), (World.cell?_alloc_lt _ _ _ (World.block_lt_of_cell? _ _ (((HB.out.cell (World.block_lt_of_cell? w _ hw274_7)).trans hw274_7)))).trans (((HB.out.cell (World.block_lt_of_cell? w _ hw274_7)).trans hw274_7)), (World.cell?_alloc_lt _ _ _ (World.block_lt_of_cell? _ _ (((HB.out.cell (World.block_lt_of_cell? w _ hw275_0)).trans hw275_0)))).trans (((HB.out.cell (World.block_lt_of_cell? w _ hw275_0)).trans hw275_0)), (World.cell?_alloc_lt _ _ _ (World.block_lt_of_cell? _ _ (((HB.out.cell (World.block_lt_of_cell? w _ hw275_1)).trans hw275_1)))).trans (((HB.out.cell (World.block_lt_of_cell? w _ hw275_1)).trans hw275_1)), (World.cell?_alloc_lt _ _ _ (World.block_lt_of_cell? _ _ (((HB.out.cell (World.block_lt_of_cell? w _ hw275_2)).trans hw275_2)))).trans (((HB.out.cell (World.block_lt_of_cell? w _ hw275_2)).trans hw275_2)), (World.cell?_alloc_lt _ _ _ (World.block_lt_of_cell? _ _ (((HB.out.cell (World.block_lt_of_cell? w _ hw275_3)).trans hw275_3)))).trans (((HB.out.cell (World.block_lt_of_cell? w _ hw275_3)).trans hw275_3)), (World.cell?_alloc_lt _ _ _ (World.block_lt_of_cell? _ _ (((HB.out.cell (World.block_lt_of_cell? w _ hw275_4)).trans hw275_4)))).trans (((HB.out.cell (World.block_lt_of_cell? w _ hw275_4)).trans hw275_4)), (World.cell?_alloc_lt _ _ _ (World.block_lt_of_cell? _ _ (((HB.out.cell (World.block_lt_of_cell? w _ hw275_5)).trans hw275_5)))).trans (((HB.out.cell (World.block_lt_of_cell? w _ hw275_5)).trans hw275_5)), (World.cell?_alloc_lt _ _ _ (World.block_lt_of_cell? _ _ (((HB.out.cell (World.block_lt_of_cell? w _ hw275_6)).trans hw275_6)))).trans (((HB.out.cell (World.block_lt_of_cell? w _ hw275_6)).trans hw275_6)), (World.cell?_alloc_lt _ _ _ (World.block_lt_of_cell? _ _ (((HB.out.cell (World.block_lt_of_cell? w _ hw275_7)).trans hw275_7)))).trans (((HB.out.cell (World.block_lt_of_cell? w _ hw275_7)).trans hw275_7)), (World.cell?_alloc_lt _ _ _ (World.block_lt_of_cell? _ _ (((HB.out.cell (World.block_lt_of_cell? w _ hw276_0)).trans hw276_0)))).trans (((HB.out.cell (World.block_lt_of_cell? w _ hw276_0)).trans hw276_0)), (World.cell?_alloc_lt _ _ _ (World.block_lt_of_cell? _ _ (((HB.out.cell (World.block_lt_of_cell? w _ hw276_1)).trans hw276_1)))).trans (((HB.out.cell (World.block_lt_of_cell? w _ hw276_1)).trans hw276_1)), (World.cell?_alloc_lt _ _ _ (World.block_lt_of_cell? _ _ (((HB.out.cell (World.block_lt_of_cell? w _ hw276_2)).trans hw276_2)))).trans (((HB.out.cell (World.block_lt_of_cell? w _ hw276_2)).trans hw276_2)), (World.cell?_alloc_lt _ _ _ (World.block_lt_of_cell? _ _ (((HB.out.cell (World.block_lt_of_cell? w _ hw276_3)).trans hw276_3)))).trans (((HB.out.cell (World.block_lt_of_cell? w _ hw276_3)).trans hw276_3)), (World.cell?_alloc_lt _ _ _ (World.block_lt_of_cell? _ _ (((HB.out.cell (World.block_lt_of_cell? w _ hw276_4)).trans hw276_4)))).trans (((HB.out.cell (World.block_lt_of_cell? w _ hw276_4)).trans hw276_4)), (World.cell?_alloc_lt _ _ _ (World.block_lt_of_cell? _ _ (((HB.out.cell (World.block_lt_of_cell? w _ hw276_5)).trans hw276_5)))).trans (((HB.out.cell (World.block_lt_of_cell? w _ hw276_5)).trans hw276_5)), (World.cell?_alloc_lt _ _ _ (World.block_lt_of_cell? _ _ (((HB.out.cell (World.block_lt_of_cell? w _ hw276_6)).trans hw276_6)))).trans (((HB.out.cell (World.block_lt_of_cell? w _ hw276_6)).trans hw276_6)), (World.cell?_alloc_lt _ _ _ (World.block_lt_of_cell? _ _ (((HB.out.cell (World.block_lt_of_cell? w _ hw276_7)).trans hw276_7)))).trans (((HB.out.cell (World.block_lt_of_cell? w _ hw276_7)).trans hw276_7))⟩ (fun hHeld => ?_)
              clear hK K
              refine norm_ (a' := ?_) ?_ ?_
              rotate_left
              · show Act.put _ (some 28) _ = _
                simp only [Act.put, List.setIfInBounds_toArray, List.set_cons_zero, List.set_cons_succ, i64_w, i32_w]
                rfl
              refine one_ (i := 18) (N := some 29) #[true, true, true, true, true, true, true, true, true, true, true, true, true, true, true, true, true, true, true, false] rfl rfl (one_of HT_.out (by kernel_rfl)) (by decide) (fun K hK => ?_)
              refine Kd.R_append_step k43 (w0 := w) w.heap.size (by rfl) (.tmp 11) (.tmp 28) 23 43 (.agg #[(.string ⟨#[]⟩), (.int .u64 0), (.int .u32 0), (.int .u8 0), (.int .u8 0)]) 40 rfl Try.underlying23 info43 rfl (by decide) (by omega) u3 x3_1 (⟨(rd_T41 l0 x8_1).f0, (⟨(rd_T41 l0 x8_1).f1.f0, (rd_T41 l0 x8_1).f1.f1, (rd_T41 l0 x8_1).f1.f2⟩ : S39), (rd_T41 l0 x8_1).f2⟩ : S43) [.string ((rd_T41 l0 x8_1).f0), .int .u64 ((rd_T41 l0 x8_1).f1.f0), .int .u32 ((rd_T41 l0 x8_1).f1.f1), .int .u8 ((rd_T41 l0 x8_1).f1.f2), .int .u8 ((rd_T41 l0 x8_1).f2)] (fun _ => True) (fun _ => False) rfl rfl ?aP (fun _ hk => hk.elim) ?aF ?aO ?aB ?aS ?aL ?_
              (case aP => exact k43_mkM _ _ _ (⟨(rd_T41 l0 x8_1).f0, (⟨(rd_T41 l0 x8_1).f1.f0, (rd_T41 l0 x8_1).f1.f1, (rd_T41 l0 x8_1).f1.f2⟩ : S39), (rd_T41 l0 x8_1).f2⟩ : S43))
              (case aB => exact (by repeat (first | (with_reducible first | exact HB.out | apply below_alloc | apply pw_below_drewN | apply below_drew1) | exact HB.out)))
              (case aF => exact (fun _ _ => trivial))
              (case aO => exact (by (with_reducible repeat (first | apply Kd.R_alloc | apply Kd.R_drewN | apply Kd.R_drew)); exact HO_3.out))
              (case aS => exact (below_size (by repeat (first | (with_reducible first | exact HB.out | apply below_alloc | apply pw_below_drewN | apply below_drew1) | exact HB.out))))
              (case aL => have := LMc7.out; omega)
              intro v278 w9 ho hb hg hat
              rw [← Ny277.out] at ho
              have n0_ := Aside0.mk (hb)
              have n1_ := Aside0.mk (ho)
              clear HB
              clear HO_3
              have HB := n0_
              have HO279 := n1_
              clear n0_ n1_
              clear ho hb hg hat
              refine hK.out _ _ ⟨((HB.out.cell (World.block_lt_of_cell? w _ hw274_0)).trans hw274_0), ((HB.out.cell (World.block_lt_of_cell? w _ hw274_1)).trans hw274_1), ((HB.out.cell (World.block_lt_of_cell? w _ hw274_2)).trans hw274_2), ((HB.out.cell (World.block_lt_of_cell? w _ hw274_3)).trans hw274_3), ((HB.out.cell (World.block_lt_of_cell? w _ hw274_4)).trans hw274_4), ((HB.out.cell (World.block_lt_of_cell? w _ hw274_5)).trans hw274_5), ((HB.out.cell (World.block_lt_of_cell? w _ hw274_6)).trans hw274_6), ((HB.out.cell (World.block_lt_of_cell? w _ hw274_7)).trans hw274_7), ((HB.out.cell (World.block_lt_of_cell? w _ hw275_0)).trans hw275_0), ((HB.out.cell (World.block_lt_of_cell? w _ hw275_1)).trans hw275_1), ((HB.out.cell (World.block_lt_of_cell? w _ hw275_2)).trans hw275_2), ((HB.out.cell (World.block_lt_of_cell? w _ hw275_3)).trans hw275_3), ((HB.out.cell (World.block_lt_of_cell? w _ hw275_4)).trans hw275_4), ((HB.out.cell (World.block_lt_of_cell? w _ hw275_5)).trans hw275_5), ((HB.out.cell (World.block_lt_of_cell? w _ hw275_6)).trans hw275_6), ((HB.out.cell (World.block_lt_of_cell? w _ hw275_7)).trans hw275_7), ((HB.out.cell (World.block_lt_of_cell? w _ hw276_0)).trans hw276_0), ((HB.out.cell (World.block_lt_of_cell? w _ hw276_1)).trans hw276_1), ((HB.out.cell (World.block_lt_of_cell? w _ hw276_2)).trans hw276_2), ((HB.out.cell (World.block_lt_of_cell? w _ hw276_3)).trans hw276_3), ((HB.out.cell (World.block_lt_of_cell? w _ hw276_4)).trans hw276_4), ((HB.out.cell (World.block_lt_of_cell? w _ hw276_5)).trans hw276_5), ((HB.out.cell (World.block_lt_of_cell? w _ hw276_6)).trans hw276_6), ((HB.out.cell (World.block_lt_of_cell? w _ hw276_7)).trans hw276_7)⟩ (fun hHeld => ?_)
              clear hK K
              refine norm_ (a' := ?_) ?_ ?_
              rotate_left
              · show Act.put _ (some 29) _ = _
                simp only [Act.put, List.setIfInBounds_toArray, List.set_cons_zero, List.set_cons_succ, i64_w, i32_w]
                rfl
              refine pure_ (i := 19) (N := some 3) (v := ?_) (a' := ?_) #[true, true, true, true, true, true, true, true, true, true, true, true, true, true, true, true, true, true, true, true] rfl rfl (any_of HT_.out (by kernel_rfl)) (fun _ _ _ h => h) (Or.inl ⟨by rfl, ?_⟩) ?_ ?_
              rotate_left
              · intro w'
                go_simp
                with_reducible rfl
              rotate_left
              · simp only [Act.put, List.setIfInBounds_toArray, List.set_cons_zero, List.set_cons_succ, i64_w, i32_w]
                rfl
              refine done_ (done_of HT_.out (by kernel_rfl)) ?_
              try go_wp2
              go_roundg k1
              case measure => have := HK1.out; omega
              case rel => exact ⟨(y277), (wrap64 (x8_1 + 1)), (by first | rfl | (simp; done) | (simp [*]; done)), H', ⟨by have := HK1.out; omega⟩, ⟨by (with_reducible repeat (first | apply Kd.R_alloc | apply Kd.R_drewN | apply Kd.R_drew)); exact HO279.out⟩, ⟨by repeat (first | (with_reducible first | exact HB.out | apply below_alloc | apply pw_below_drewN | apply below_drew1) | exact HB.out)⟩⟩
            · rw [if_neg c7] at H
              exact absurd H (by simp)
          · rw [if_neg c6] at H
            exact absurd H (by simp)
        · rw [if_neg c5] at H
          exact absurd H (by simp)
      · rw [if_neg c4] at H
        have c4b0 : decide (x8_1 < (l0.length : Int)) = false := decide_eq_false c4
        clear c4
        obtain rfl := Option.some.inj H
        go_wp2
        go_ret
        exact ⟨_, by first | rfl | (simp [errW_none, errW_some] <;> rfl) | (simp [*, errW_none, errW_some] <;> rfl), by (with_reducible repeat (first | apply Kd.R_alloc | apply Kd.R_drewN | apply Kd.R_drew)); exact HO_3.out, by repeat (first | (with_reducible first | exact HB.out | apply below_alloc | apply pw_below_drewN | apply below_drew1) | exact HB.out)⟩

/-! ### tattlerref05_Less: function 34 -/
def tattlerref05_Less.f (a0_0 : Int) (a0_1 : Int) (a0_2 : Int) (a1_0 : Int) (a1_1 : Int) (a1_2 : Int) : Option (Bool) := if a0_0 = a1_0 then (if a0_1 = a1_1 then (some (decide (a0_2 < a1_2))) else (some (decide (a0_1 < a1_1)))) else (some (decide (a0_0 < a1_0)))
set_option maxHeartbeats 8000000 in
set_option maxRecDepth 100000 in
theorem tattlerref05_Less.calls (a0_0 : Int) (a0_1 : Int) (a0_2 : Int) (a1_0 : Int) (a1_1 : Int) (a1_2 : Int) (r : Bool) (w : World) (h : tattlerref05_Less.f a0_0 a0_1 a0_2 a1_0 a1_1 a1_2 = some r) :
    Calls Try.prog 34 #[.agg #[.int .u64 a0_0, .int .u32 a0_1, .int .u8 a0_2], .agg #[.int .u64 a1_0, .int .u32 a1_1, .int .u8 a1_2]] w fun e w' => e = .returned (.bool r) ∧ Below w.heap.size w w' := by
  have hu39 := Try.underlying39
  have HB := Aside0.mk (Below.refl w.heap.size w)
  have H : (if a0_0 = a1_0 then (if a0_1 = a1_1 then (some (decide (a0_2 < a1_2))) else (some (decide (a0_1 < a1_1)))) else (some (decide (a0_0 < a1_0)))) = some r := h
  clear h
  by_cases c3 : a0_0 = a1_0
  · rw [if_pos c3] at H
    have c3b0 : (a0_0 == a1_0) = true := beq_iff_eq.mpr c3
    have c3b1 : (a0_0 != a1_0) = false := bne_eq_false_iff_eq.mpr c3
    clear c3
    by_cases c4 : a0_1 = a1_1
    · rw [if_pos c4] at H
      have c4b0 : (a0_1 == a1_1) = true := beq_iff_eq.mpr c4
      have c4b1 : (a0_1 != a1_1) = false := bne_eq_false_iff_eq.mpr c4
      clear c4
      obtain rfl := Option.some.inj H
      go_enter Try.func34, Try.ntmps34
      go_wp2_with (first | ((with_reducible refine gate_dst (N := 2) rfl ?_); refine box_event ?hg (N := 2) ?hd (cs := #[.int .u64 a0_0, .int .u32 a0_1, .int .u8 a0_2]) (t := 39) ?hr ?_; (case hd => rfl); (case hg => rfl); (case hr => first | (go_simp; done) | (go_simp; rfl)); intro gb280 hg w5 hbox hb; have n0_ := Aside0.mk (below_step (by repeat (first | (with_reducible first | exact HB.out | apply below_alloc | apply pw_below_drewN | apply below_drew1) | exact HB.out)) hb); have n1_ := Aside0.mk (hbox); have n2_ := Aside0.mk ((by rw [hg]; exact (below_size (by repeat (first | (with_reducible first | exact HB.out | apply below_alloc | apply pw_below_drewN | apply below_drew1) | exact HB.out))) : w.heap.size ≤ gb280)); have n3_ := Aside0.mk ((by rw [hg]; exact (below_size (by repeat (first | (with_reducible first | exact HB.out | apply below_alloc | apply pw_below_drewN | apply below_drew1) | exact HB.out))) : w.heap.size ≤ gb280)); clear HB; have HB := n0_; have BK280 := n1_; have GW280 := n2_; have GE280 := n3_; clear n0_ n1_ n2_ n3_; clear hb hbox hg) | ((with_reducible refine gate_dst (N := 3) rfl ?_); refine box_event ?hg (N := 3) ?hd (cs := #[.int .u64 a1_0, .int .u32 a1_1, .int .u8 a1_2]) (t := 39) ?hr ?_; (case hd => rfl); (case hg => rfl); (case hr => first | (go_simp; done) | (go_simp; rfl)); intro gb281 hg w6 hbox hb; have n0_ := Aside0.mk (blk_below (g := gb280) (o := .cells #[.int .u64 a0_0, .int .u32 a0_1, .int .u8 a0_2] 39 (0, 0)) (by (with_reducible repeat (first | refine blk_drewN ?_ _ | refine blk_drew ?_ | refine blk_alloc ?_ _)); exact BK280.out) hb); have n1_ := Aside0.mk (below_step (by repeat (first | (with_reducible first | exact HB.out | apply below_alloc | apply pw_below_drewN | apply below_drew1 | refine below_set ?_ GE280.out) | exact HB.out)) hb); have n2_ := Aside0.mk (hbox); have n3_ := Aside0.mk ((by rw [hg]; exact (below_size (by repeat (first | (with_reducible first | exact HB.out | apply below_alloc | apply pw_below_drewN | apply below_drew1 | refine below_set ?_ GE280.out) | exact HB.out))) : w.heap.size ≤ gb281)); have n4_ := Aside0.mk ((by rw [hg]; exact (below_size (by repeat (first | (with_reducible first | exact HB.out | apply below_alloc | apply pw_below_drewN | apply below_drew1 | refine below_set ?_ GE280.out) | exact HB.out))) : w.heap.size ≤ gb281)); have n5_ := Aside0.mk ((by rw [hg]; exact Nat.ne_of_lt (blk_lt (g := gb280) (o := .cells #[.int .u64 a0_0, .int .u32 a0_1, .int .u8 a0_2] 39 (0, 0)) (by (with_reducible repeat (first | refine blk_drewN ?_ _ | refine blk_drew ?_ | refine blk_alloc ?_ _)); exact BK280.out)) : gb280 ≠ gb281)); have n6_ := Aside0.mk ((by rw [hg]; exact Nat.ne_of_gt (blk_lt (g := gb280) (o := .cells #[.int .u64 a0_0, .int .u32 a0_1, .int .u8 a0_2] 39 (0, 0)) (by (with_reducible repeat (first | refine blk_drewN ?_ _ | refine blk_drew ?_ | refine blk_alloc ?_ _)); exact BK280.out)) : gb281 ≠ gb280)); clear BK280; clear HB; have BK280 := n0_; have HB := n1_; have BK281 := n2_; have GW281 := n3_; have GE281 := n4_; have NB280_281 := n5_; have NB281_280 := n6_; clear n0_ n1_ n2_ n3_ n4_ n5_ n6_; clear hb hbox hg; have hnb7 := NB280_281.out; have hnc7 := NB281_280.out; have hcz8_0 : w6.cell? ⟨gb280, 0, none⟩ = some (.int .u64 a0_0) := (blk_cell BK280.out 0).trans rfl; have hcz8_1 : w6.cell? ⟨gb280, 1, none⟩ = some (.int .u32 a0_1) := (blk_cell BK280.out 1).trans rfl; have hcz8_2 : w6.cell? ⟨gb280, 2, none⟩ = some (.int .u8 a0_2) := (blk_cell BK280.out 2).trans rfl; have hfz8_0 := blk_frozen BK280.out 0; have hfz8_1 := blk_frozen BK280.out 1; have hfz8_2 := blk_frozen BK280.out 2; have hcz9_0 : w6.cell? ⟨gb281, 0, none⟩ = some (.int .u64 a1_0) := (blk_cell BK281.out 0).trans rfl; have hcz9_1 : w6.cell? ⟨gb281, 1, none⟩ = some (.int .u32 a1_1) := (blk_cell BK281.out 1).trans rfl; have hcz9_2 : w6.cell? ⟨gb281, 2, none⟩ = some (.int .u8 a1_2) := (blk_cell BK281.out 2).trans rfl; have hfz9_0 := blk_frozen BK281.out 0; have hfz9_1 := blk_frozen BK281.out 1; have hfz9_2 := blk_frozen BK281.out 2))
      go_ret
      exact ⟨by first | rfl | (simp [errW_none, errW_some] <;> rfl) | (simp [*, errW_none, errW_some] <;> rfl), by repeat (first | (with_reducible first | exact HB.out | apply below_alloc | apply pw_below_drewN | apply below_drew1 | refine below_set ?_ GE280.out | refine below_set ?_ GE281.out) | exact HB.out)⟩
    · rw [if_neg c4] at H
      have c4b0 : (a0_1 == a1_1) = false := beq_eq_false_iff_ne.mpr c4
      have c4b1 : (a0_1 != a1_1) = true := bne_iff_ne.mpr c4
      obtain rfl := Option.some.inj H
      go_enter Try.func34, Try.ntmps34
      go_wp2_with (first | ((with_reducible refine gate_dst (N := 2) rfl ?_); refine box_event ?hg (N := 2) ?hd (cs := #[.int .u64 a0_0, .int .u32 a0_1, .int .u8 a0_2]) (t := 39) ?hr ?_; (case hd => rfl); (case hg => rfl); (case hr => first | (go_simp; done) | (go_simp; rfl)); intro gb280 hg w10 hbox hb; have n0_ := Aside0.mk (below_step (by repeat (first | (with_reducible first | exact HB.out | apply below_alloc | apply pw_below_drewN | apply below_drew1) | exact HB.out)) hb); have n1_ := Aside0.mk (hbox); have n2_ := Aside0.mk ((by rw [hg]; exact (below_size (by repeat (first | (with_reducible first | exact HB.out | apply below_alloc | apply pw_below_drewN | apply below_drew1) | exact HB.out))) : w.heap.size ≤ gb280)); have n3_ := Aside0.mk ((by rw [hg]; exact (below_size (by repeat (first | (with_reducible first | exact HB.out | apply below_alloc | apply pw_below_drewN | apply below_drew1) | exact HB.out))) : w.heap.size ≤ gb280)); clear HB; have HB := n0_; have BK280 := n1_; have GW280 := n2_; have GE280 := n3_; clear n0_ n1_ n2_ n3_; clear hb hbox hg) | ((with_reducible refine gate_dst (N := 3) rfl ?_); refine box_event ?hg (N := 3) ?hd (cs := #[.int .u64 a1_0, .int .u32 a1_1, .int .u8 a1_2]) (t := 39) ?hr ?_; (case hd => rfl); (case hg => rfl); (case hr => first | (go_simp; done) | (go_simp; rfl)); intro gb281 hg w11 hbox hb; have n0_ := Aside0.mk (blk_below (g := gb280) (o := .cells #[.int .u64 a0_0, .int .u32 a0_1, .int .u8 a0_2] 39 (0, 0)) (by (with_reducible repeat (first | refine blk_drewN ?_ _ | refine blk_drew ?_ | refine blk_alloc ?_ _)); exact BK280.out) hb); have n1_ := Aside0.mk (below_step (by repeat (first | (with_reducible first | exact HB.out | apply below_alloc | apply pw_below_drewN | apply below_drew1 | refine below_set ?_ GE280.out) | exact HB.out)) hb); have n2_ := Aside0.mk (hbox); have n3_ := Aside0.mk ((by rw [hg]; exact (below_size (by repeat (first | (with_reducible first | exact HB.out | apply below_alloc | apply pw_below_drewN | apply below_drew1 | refine below_set ?_ GE280.out) | exact HB.out))) : w.heap.size ≤ gb281)); have n4_ := Aside0.mk ((by rw [hg]; exact (below_size (by repeat (first | (with_reducible first | exact HB.out | apply below_alloc | apply pw_below_drewN | apply below_drew1 | refine below_set ?_ GE280.out) | exact HB.out))) : w.heap.size ≤ gb281)); have n5_ := Aside0.mk ((by rw [hg]; exact Nat.ne_of_lt (blk_lt (g := gb280) (o := .cells #[.int .u64 a0_0, .int .u32 a0_1, .int .u8 a0_2] 39 (0, 0)) (by (with_reducible repeat (first | refine blk_drewN ?_ _ | refine blk_drew ?_ | refine blk_alloc ?_ _)); exact BK280.out)) : gb280 ≠ gb281)); have n6_ := Aside0.mk ((by rw [hg]; exact Nat.ne_of_gt (blk_lt (g := gb280) (o := .cells #[.int .u64 a0_0, .int .u32 a0_1, .int .u8 a0_2] 39 (0, 0)) (by (with_reducible repeat (first | refine blk_drewN ?_ _ | refine blk_drew ?_ | refine blk_alloc ?_ _)); exact BK280.out)) : gb281 ≠ gb280)); clear BK280; clear HB; have BK280 := n0_; have HB := n1_; have BK281 := n2_; have GW281 := n3_; have GE281 := n4_; have NB280_281 := n5_; have NB281_280 := n6_; clear n0_ n1_ n2_ n3_ n4_ n5_ n6_; clear hb hbox hg; have hnb12 := NB280_281.out; have hnc12 := NB281_280.out; have hcz13_0 : w11.cell? ⟨gb280, 0, none⟩ = some (.int .u64 a0_0) := (blk_cell BK280.out 0).trans rfl; have hcz13_1 : w11.cell? ⟨gb280, 1, none⟩ = some (.int .u32 a0_1) := (blk_cell BK280.out 1).trans rfl; have hcz13_2 : w11.cell? ⟨gb280, 2, none⟩ = some (.int .u8 a0_2) := (blk_cell BK280.out 2).trans rfl; have hfz13_0 := blk_frozen BK280.out 0; have hfz13_1 := blk_frozen BK280.out 1; have hfz13_2 := blk_frozen BK280.out 2; have hcz14_0 : w11.cell? ⟨gb281, 0, none⟩ = some (.int .u64 a1_0) := (blk_cell BK281.out 0).trans rfl; have hcz14_1 : w11.cell? ⟨gb281, 1, none⟩ = some (.int .u32 a1_1) := (blk_cell BK281.out 1).trans rfl; have hcz14_2 : w11.cell? ⟨gb281, 2, none⟩ = some (.int .u8 a1_2) := (blk_cell BK281.out 2).trans rfl; have hfz14_0 := blk_frozen BK281.out 0; have hfz14_1 := blk_frozen BK281.out 1; have hfz14_2 := blk_frozen BK281.out 2))
      go_ret
      exact ⟨by first | rfl | (simp [errW_none, errW_some] <;> rfl) | (simp [*, errW_none, errW_some] <;> rfl), by repeat (first | (with_reducible first | exact HB.out | apply below_alloc | apply pw_below_drewN | apply below_drew1 | refine below_set ?_ GE280.out | refine below_set ?_ GE281.out) | exact HB.out)⟩
  · rw [if_neg c3] at H
    have c3b0 : (a0_0 == a1_0) = false := beq_eq_false_iff_ne.mpr c3
    have c3b1 : (a0_0 != a1_0) = true := bne_iff_ne.mpr c3
    obtain rfl := Option.some.inj H
    go_enter Try.func34, Try.ntmps34
    go_wp2_with (first | ((with_reducible refine gate_dst (N := 2) rfl ?_); refine box_event ?hg (N := 2) ?hd (cs := #[.int .u64 a0_0, .int .u32 a0_1, .int .u8 a0_2]) (t := 39) ?hr ?_; (case hd => rfl); (case hg => rfl); (case hr => first | (go_simp; done) | (go_simp; rfl)); intro gb280 hg w15 hbox hb; have n0_ := Aside0.mk (below_step (by repeat (first | (with_reducible first | exact HB.out | apply below_alloc | apply pw_below_drewN | apply below_drew1) | exact HB.out)) hb); have n1_ := Aside0.mk (hbox); have n2_ := Aside0.mk ((by rw [hg]; exact (below_size (by repeat (first | (with_reducible first | exact HB.out | apply below_alloc | apply pw_below_drewN | apply below_drew1) | exact HB.out))) : w.heap.size ≤ gb280)); have n3_ := Aside0.mk ((by rw [hg]; exact (below_size (by repeat (first | (with_reducible first | exact HB.out | apply below_alloc | apply pw_below_drewN | apply below_drew1) | exact HB.out))) : w.heap.size ≤ gb280)); clear HB; have HB := n0_; have BK280 := n1_; have GW280 := n2_; have GE280 := n3_; clear n0_ n1_ n2_ n3_; clear hb hbox hg) | ((with_reducible refine gate_dst (N := 3) rfl ?_); refine box_event ?hg (N := 3) ?hd (cs := #[.int .u64 a1_0, .int .u32 a1_1, .int .u8 a1_2]) (t := 39) ?hr ?_; (case hd => rfl); (case hg => rfl); (case hr => first | (go_simp; done) | (go_simp; rfl)); intro gb281 hg w16 hbox hb; have n0_ := Aside0.mk (blk_below (g := gb280) (o := .cells #[.int .u64 a0_0, .int .u32 a0_1, .int .u8 a0_2] 39 (0, 0)) (by (with_reducible repeat (first | refine blk_drewN ?_ _ | refine blk_drew ?_ | refine blk_alloc ?_ _)); exact BK280.out) hb); have n1_ := Aside0.mk (below_step (by repeat (first | (with_reducible first | exact HB.out | apply below_alloc | apply pw_below_drewN | apply below_drew1 | refine below_set ?_ GE280.out) | exact HB.out)) hb); have n2_ := Aside0.mk (hbox); have n3_ := Aside0.mk ((by rw [hg]; exact (below_size (by repeat (first | (with_reducible first | exact HB.out | apply below_alloc | apply pw_below_drewN | apply below_drew1 | refine below_set ?_ GE280.out) | exact HB.out))) : w.heap.size ≤ gb281)); have n4_ := Aside0.mk ((by rw [hg]; exact (below_size (by repeat (first | (with_reducible first | exact HB.out | apply below_alloc | apply pw_below_drewN | apply below_drew1 | refine below_set ?_ GE280.out) | exact HB.out))) : w.heap.size ≤ gb281)); have n5_ := Aside0.mk ((by rw [hg]; exact Nat.ne_of_lt (blk_lt (g := gb280) (o := .cells #[.int .u64 a0_0, .int .u32 a0_1, .int .u8 a0_2] 39 (0, 0)) (by (with_reducible repeat (first | refine blk_drewN ?_ _ | refine blk_drew ?_ | refine blk_alloc ?_ _)); exact BK280.out)) : gb280 ≠ gb281)); have n6_ := Aside0.mk ((by rw [hg]; exact Nat.ne_of_gt (blk_lt (g := gb280) (o := .cells #[.int .u64 a0_0, .int .u32 a0_1, .int .u8 a0_2] 39 (0, 0)) (by (with_reducible repeat (first | refine blk_drewN ?_ _ | refine blk_drew ?_ | refine blk_alloc ?_ _)); exact BK280.out)) : gb281 ≠ gb280)); clear BK280; clear HB; have BK280 := n0_; have HB := n1_; have BK281 := n2_; have GW281 := n3_; have GE281 := n4_; have NB280_281 := n5_; have NB281_280 := n6_; clear n0_ n1_ n2_ n3_ n4_ n5_ n6_; clear hb hbox hg; have hnb17 := NB280_281.out; have hnc17 := NB281_280.out; have hcz18_0 : w16.cell? ⟨gb280, 0, none⟩ = some (.int .u64 a0_0) := (blk_cell BK280.out 0).trans rfl; have hcz18_1 : w16.cell? ⟨gb280, 1, none⟩ = some (.int .u32 a0_1) := (blk_cell BK280.out 1).trans rfl; have hcz18_2 : w16.cell? ⟨gb280, 2, none⟩ = some (.int .u8 a0_2) := (blk_cell BK280.out 2).trans rfl; have hfz18_0 := blk_frozen BK280.out 0; have hfz18_1 := blk_frozen BK280.out 1; have hfz18_2 := blk_frozen BK280.out 2; have hcz19_0 : w16.cell? ⟨gb281, 0, none⟩ = some (.int .u64 a1_0) := (blk_cell BK281.out 0).trans rfl; have hcz19_1 : w16.cell? ⟨gb281, 1, none⟩ = some (.int .u32 a1_1) := (blk_cell BK281.out 1).trans rfl; have hcz19_2 : w16.cell? ⟨gb281, 2, none⟩ = some (.int .u8 a1_2) := (blk_cell BK281.out 2).trans rfl; have hfz19_0 := blk_frozen BK281.out 0; have hfz19_1 := blk_frozen BK281.out 1; have hfz19_2 := blk_frozen BK281.out 2))
    go_ret
    exact ⟨by first | rfl | (simp [errW_none, errW_some] <;> rfl) | (simp [*, errW_none, errW_some] <;> rfl), by repeat (first | (with_reducible first | exact HB.out | apply below_alloc | apply pw_below_drewN | apply below_drew1 | refine below_set ?_ GE280.out | refine below_set ?_ GE281.out) | exact HB.out)⟩

/-! ### tattlerref15_Behind: function 28 -/
def tattlerref15_Behind.f (a0_0 : Int) (a0_1 : Int) (a0_2 : Int) (a1 : Int) (a2_0 : Int) (a2_1 : Int) (a2_2 : Int) (a3 : Int) : Option (Bool) := (tattlerref05_Less.f a0_0 a0_1 a0_2 a2_0 a2_1 a2_2).bind fun t284 => (if t284 = true then (some true) else (if (a0_0 == a2_0 && (a0_1 == a2_1 && (a0_2 == a2_2))) = true then (some (decide (a1 < a3))) else (some false)))
set_option maxHeartbeats 8000000 in
set_option maxRecDepth 100000 in
theorem tattlerref15_Behind.calls (a0_0 : Int) (a0_1 : Int) (a0_2 : Int) (a1 : Int) (a2_0 : Int) (a2_1 : Int) (a2_2 : Int) (a3 : Int) (r : Bool) (w : World) (h : tattlerref15_Behind.f a0_0 a0_1 a0_2 a1 a2_0 a2_1 a2_2 a3 = some r) :
    Calls Try.prog 28 #[.agg #[.int .u64 a0_0, .int .u32 a0_1, .int .u8 a0_2], .int .u8 a1, .agg #[.int .u64 a2_0, .int .u32 a2_1, .int .u8 a2_2], .int .u8 a3] w fun e w' => e = .returned (.bool r) ∧ Below w.heap.size w w' := by
  have hu39 := Try.underlying39
  have HB := Aside0.mk (Below.refl w.heap.size w)
  have H : ((tattlerref05_Less.f a0_0 a0_1 a0_2 a2_0 a2_1 a2_2).bind fun t284 => (if t284 = true then (some true) else (if (a0_0 == a2_0 && (a0_1 == a2_1 && (a0_2 == a2_2))) = true then (some (decide (a1 < a3))) else (some false)))) = some r := h
  clear h
  replace H := Option.bind_eq_some_iff.mp H
  obtain ⟨t284, A50, H⟩ := H
  replace H : (if t284 = true then (some true) else (if (a0_0 == a2_0 && (a0_1 == a2_1 && (a0_2 == a2_2))) = true then (some (decide (a1 < a3))) else (some false))) = some r := H
  have A5 := Aside0.mk A50
  clear A50
  by_cases c6 : t284 = true
  · subst c6
    have H1 : (some true) = some r := by rw [if_pos rfl] at H; exact H
    clear H
    have H := H1
    clear H1
    obtain rfl := Option.some.inj H
    go_enter Try.func28, Try.ntmps28
    go_wp2_with (first | ((with_reducible refine gate_dst (N := 4) rfl ?_); refine box_event ?hg (N := 4) ?hd (cs := #[.int .u64 a0_0, .int .u32 a0_1, .int .u8 a0_2]) (t := 39) ?hr ?_; (case hd => rfl); (case hg => rfl); (case hr => first | (go_simp; done) | (go_simp; rfl)); intro gb282 hg w7 hbox hb; have n0_ := Aside0.mk (below_step (by repeat (first | (with_reducible first | exact HB.out | apply below_alloc | apply pw_below_drewN | apply below_drew1) | exact HB.out)) hb); have n1_ := Aside0.mk (hbox); have n2_ := Aside0.mk ((by rw [hg]; exact (below_size (by repeat (first | (with_reducible first | exact HB.out | apply below_alloc | apply pw_below_drewN | apply below_drew1) | exact HB.out))) : w.heap.size ≤ gb282)); have n3_ := Aside0.mk ((by rw [hg]; exact (below_size (by repeat (first | (with_reducible first | exact HB.out | apply below_alloc | apply pw_below_drewN | apply below_drew1) | exact HB.out))) : w.heap.size ≤ gb282)); clear HB; have HB := n0_; have BK282 := n1_; have GW282 := n2_; have GE282 := n3_; clear n0_ n1_ n2_ n3_; clear hb hbox hg) | ((with_reducible refine gate_dst (N := 6) rfl ?_); refine box_event ?hg (N := 6) ?hd (cs := #[.int .u64 a2_0, .int .u32 a2_1, .int .u8 a2_2]) (t := 39) ?hr ?_; (case hd => rfl); (case hg => rfl); (case hr => first | (go_simp; done) | (go_simp; rfl)); intro gb283 hg w8 hbox hb; have n0_ := Aside0.mk (blk_below (g := gb282) (o := .cells #[.int .u64 a0_0, .int .u32 a0_1, .int .u8 a0_2] 39 (0, 0)) (by (with_reducible repeat (first | refine blk_drewN ?_ _ | refine blk_drew ?_ | refine blk_alloc ?_ _)); exact BK282.out) hb); have n1_ := Aside0.mk (below_step (by repeat (first | (with_reducible first | exact HB.out | apply below_alloc | apply pw_below_drewN | apply below_drew1 | refine below_set ?_ GE282.out) | exact HB.out)) hb); have n2_ := Aside0.mk (hbox); have n3_ := Aside0.mk ((by rw [hg]; exact (below_size (by repeat (first | (with_reducible first | exact HB.out | apply below_alloc | apply pw_below_drewN | apply below_drew1 | refine below_set ?_ GE282.out) | exact HB.out))) : w.heap.size ≤ gb283)); have n4_ := Aside0.mk ((by rw [hg]; exact (below_size (by repeat (first | (with_reducible first | exact HB.out | apply below_alloc | apply pw_below_drewN | apply below_drew1 | refine below_set ?_ GE282.out) | exact HB.out))) : w.heap.size ≤ gb283)); have n5_ := Aside0.mk ((by rw [hg]; exact Nat.ne_of_lt (blk_lt (g := gb282) (o := .cells #[.int .u64 a0_0, .int .u32 a0_1, .int .u8 a0_2] 39 (0, 0)) (by (with_reducible repeat (first | refine blk_drewN ?_ _ | refine blk_drew ?_ | refine blk_alloc ?_ _)); exact BK282.out)) : gb282 ≠ gb283)); have n6_ := Aside0.mk ((by rw [hg]; exact Nat.ne_of_gt (blk_lt (g := gb282) (o := .cells #[.int .u64 a0_0, .int .u32 a0_1, .int .u8 a0_2] 39 (0, 0)) (by (with_reducible repeat (first | refine blk_drewN ?_ _ | refine blk_drew ?_ | refine blk_alloc ?_ _)); exact BK282.out)) : gb283 ≠ gb282)); clear BK282; clear HB; have BK282 := n0_; have HB := n1_; have BK283 := n2_; have GW283 := n3_; have GE283 := n4_; have NB282_283 := n5_; have NB283_282 := n6_; clear n0_ n1_ n2_ n3_ n4_ n5_ n6_; clear hb hbox hg; have hnb9 := NB282_283.out; have hnc9 := NB283_282.out; have hcz10_0 : w8.cell? ⟨gb282, 0, none⟩ = some (.int .u64 a0_0) := (blk_cell BK282.out 0).trans rfl; have hcz10_1 : w8.cell? ⟨gb282, 1, none⟩ = some (.int .u32 a0_1) := (blk_cell BK282.out 1).trans rfl; have hcz10_2 : w8.cell? ⟨gb282, 2, none⟩ = some (.int .u8 a0_2) := (blk_cell BK282.out 2).trans rfl; have hfz10_0 := blk_frozen BK282.out 0; have hfz10_1 := blk_frozen BK282.out 1; have hfz10_2 := blk_frozen BK282.out 2; have hcz11_0 : w8.cell? ⟨gb283, 0, none⟩ = some (.int .u64 a2_0) := (blk_cell BK283.out 0).trans rfl; have hcz11_1 : w8.cell? ⟨gb283, 1, none⟩ = some (.int .u32 a2_1) := (blk_cell BK283.out 1).trans rfl; have hcz11_2 : w8.cell? ⟨gb283, 2, none⟩ = some (.int .u8 a2_2) := (blk_cell BK283.out 2).trans rfl; have hfz11_0 := blk_frozen BK283.out 0; have hfz11_1 := blk_frozen BK283.out 1; have hfz11_2 := blk_frozen BK283.out 2) | ((with_reducible refine gate_callee (f := 34) rfl ?_); refine goesL_ (some 11) rfl rfl Try.func34 (by kernel_rfl) rfl #[.agg #[.int .u64 a0_0, .int .u32 a0_1, .int .u8 a0_2], .agg #[.int .u64 a2_0, .int .u32 a2_1, .int .u8 a2_2]] rfl (by (try simp only [List.map_toArray, List.map_cons, List.map_nil]); first | done | rfl | (simp only [List.length_drop, List.length_take]; rfl)) ?_; (with_reducible refine (tattlerref05_Less.calls a0_0 a0_1 a0_2 a2_0 a2_1 a2_2 true _ A5.out).mono ?_); rintro e w12 ⟨rfl, hb⟩; refine ⟨_, rfl, ?_⟩; have n0_ := Aside0.mk (blk_below (g := gb282) (o := .cells #[.int .u64 a0_0, .int .u32 a0_1, .int .u8 a0_2] 39 (0, 0)) (by (with_reducible repeat (first | refine blk_drewN ?_ _ | refine blk_drew ?_ | refine blk_alloc ?_ _)); exact BK282.out) hb); have n1_ := Aside0.mk (blk_below (g := gb283) (o := .cells #[.int .u64 a2_0, .int .u32 a2_1, .int .u8 a2_2] 39 (0, 0)) (by (with_reducible repeat (first | refine blk_drewN ?_ _ | refine blk_drew ?_ | refine blk_alloc ?_ _)); exact BK283.out) hb); have n2_ := Aside0.mk (below_step (by repeat (first | (with_reducible first | exact HB.out | apply below_alloc | apply pw_below_drewN | apply below_drew1 | refine below_set ?_ GE282.out | refine below_set ?_ GE283.out) | exact HB.out)) hb); clear BK282; clear BK283; clear HB; have BK282 := n0_; have BK283 := n1_; have HB := n2_; clear n0_ n1_ n2_; (try clear hb); (try clear hb2); (try clear hk); (try clear hi)))
    go_ret
    exact ⟨by first | rfl | (simp [errW_none, errW_some] <;> rfl) | (simp [*, errW_none, errW_some] <;> rfl), by repeat (first | (with_reducible first | exact HB.out | apply below_alloc | apply pw_below_drewN | apply below_drew1 | refine below_set ?_ GE282.out | refine below_set ?_ GE283.out) | exact HB.out)⟩
  · replace c6 := Bool.eq_false_iff.mpr c6
    subst c6
    have H1 : (if (a0_0 == a2_0 && (a0_1 == a2_1 && (a0_2 == a2_2))) = true then (some (decide (a1 < a3))) else (some false)) = some r := by rw [if_neg (show ¬ (false = true) by decide)] at H; exact H
    clear H
    have H := H1
    clear H1
    by_cases c13 : (a0_0 == a2_0 && (a0_1 == a2_1 && (a0_2 == a2_2))) = true
    · rw [if_pos c13] at H
      have c13b0 : (a0_0 == a2_0 && (a0_1 == a2_1 && (a0_2 == a2_2))) = true := c13
      (try (have c13b1 : decide (a0_0 = a2_0 && (a0_1 == a2_1 && (a0_2 == a2_2))) = true := by simpa using c13))
      (try (have c13b2 : (a0_0 == a2_0 && (a0_1 == a2_1 && (a0_2 == a2_2))) = true := by simpa using c13))
      clear c13
      obtain rfl := Option.some.inj H
      go_enter Try.func28, Try.ntmps28
      go_wp2_with (first | ((with_reducible refine gate_dst (N := 4) rfl ?_); refine box_event ?hg (N := 4) ?hd (cs := #[.int .u64 a0_0, .int .u32 a0_1, .int .u8 a0_2]) (t := 39) ?hr ?_; (case hd => rfl); (case hg => rfl); (case hr => first | (go_simp; done) | (go_simp; rfl)); intro gb282 hg w14 hbox hb; have n0_ := Aside0.mk (below_step (by repeat (first | (with_reducible first | exact HB.out | apply below_alloc | apply pw_below_drewN | apply below_drew1) | exact HB.out)) hb); have n1_ := Aside0.mk (hbox); have n2_ := Aside0.mk ((by rw [hg]; exact (below_size (by repeat (first | (with_reducible first | exact HB.out | apply below_alloc | apply pw_below_drewN | apply below_drew1) | exact HB.out))) : w.heap.size ≤ gb282)); have n3_ := Aside0.mk ((by rw [hg]; exact (below_size (by repeat (first | (with_reducible first | exact HB.out | apply below_alloc | apply pw_below_drewN | apply below_drew1) | exact HB.out))) : w.heap.size ≤ gb282)); clear HB; have HB := n0_; have BK282 := n1_; have GW282 := n2_; have GE282 := n3_; clear n0_ n1_ n2_ n3_; clear hb hbox hg) | ((with_reducible refine gate_dst (N := 6) rfl ?_); refine box_event ?hg (N := 6) ?hd (cs := #[.int .u64 a2_0, .int .u32 a2_1, .int .u8 a2_2]) (t := 39) ?hr ?_; (case hd => rfl); (case hg => rfl); (case hr => first | (go_simp; done) | (go_simp; rfl)); intro gb283 hg w15 hbox hb; have n0_ := Aside0.mk (blk_below (g := gb282) (o := .cells #[.int .u64 a0_0, .int .u32 a0_1, .int .u8 a0_2] 39 (0, 0)) (by (with_reducible repeat (first | refine blk_drewN ?_ _ | refine blk_drew ?_ | refine blk_alloc ?_ _)); exact BK282.out) hb); have n1_ := Aside0.mk (below_step (by repeat (first | (with_reducible first | exact HB.out | apply below_alloc | apply pw_below_drewN | apply below_drew1 | refine below_set ?_ GE282.out) | exact HB.out)) hb); have n2_ := Aside0.mk (hbox); have n3_ := Aside0.mk ((by rw [hg]; exact (below_size (by repeat (first | (with_reducible first | exact HB.out | apply below_alloc | apply pw_below_drewN | apply below_drew1 | refine below_set ?_ GE282.out) | exact HB.out))) : w.heap.size ≤ gb283)); have n4_ := Aside0.mk ((by rw [hg]; exact (below_size (by repeat (first | (with_reducible first | exact HB.out | apply below_alloc | apply pw_below_drewN | apply below_drew1 | refine below_set ?_ GE282.out) | exact HB.out))) : w.heap.size ≤ gb283)); have n5_ := Aside0.mk ((by rw [hg]; exact Nat.ne_of_lt (blk_lt (g := gb282) (o := .cells #[.int .u64 a0_0, .int .u32 a0_1, .int .u8 a0_2] 39 (0, 0)) (by (with_reducible repeat (first | refine blk_drewN ?_ _ | refine blk_drew ?_ | refine blk_alloc ?_ _)); exact BK282.out)) : gb282 ≠ gb283)); have n6_ := Aside0.mk ((by rw [hg]; exact Nat.ne_of_gt (blk_lt (g := gb282) (o := .cells #[.int .u64 a0_0, .int .u32 a0_1, .int .u8 a0_2] 39 (0, 0)) (by (with_reducible repeat (first | refine blk_drewN ?_ _ | refine blk_drew ?_ | refine blk_alloc ?_ _)); exact BK282.out)) : gb283 ≠ gb282)); clear BK282; clear HB; have BK282 := n0_; have HB := n1_; have BK283 := n2_; have GW283 := n3_; have GE283 := n4_; have NB282_283 := n5_; have NB283_282 := n6_; clear n0_ n1_ n2_ n3_ n4_ n5_ n6_; clear hb hbox hg; have hnb16 := NB282_283.out; have hnc16 := NB283_282.out; have hcz17_0 : w15.cell? ⟨gb282, 0, none⟩ = some (.int .u64 a0_0) := (blk_cell BK282.out 0).trans rfl; have hcz17_1 : w15.cell? ⟨gb282, 1, none⟩ = some (.int .u32 a0_1) := (blk_cell BK282.out 1).trans rfl; have hcz17_2 : w15.cell? ⟨gb282, 2, none⟩ = some (.int .u8 a0_2) := (blk_cell BK282.out 2).trans rfl; have hfz17_0 := blk_frozen BK282.out 0; have hfz17_1 := blk_frozen BK282.out 1; have hfz17_2 := blk_frozen BK282.out 2; have hcz18_0 : w15.cell? ⟨gb283, 0, none⟩ = some (.int .u64 a2_0) := (blk_cell BK283.out 0).trans rfl; have hcz18_1 : w15.cell? ⟨gb283, 1, none⟩ = some (.int .u32 a2_1) := (blk_cell BK283.out 1).trans rfl; have hcz18_2 : w15.cell? ⟨gb283, 2, none⟩ = some (.int .u8 a2_2) := (blk_cell BK283.out 2).trans rfl; have hfz18_0 := blk_frozen BK283.out 0; have hfz18_1 := blk_frozen BK283.out 1; have hfz18_2 := blk_frozen BK283.out 2) | ((with_reducible refine gate_callee (f := 34) rfl ?_); refine goesL_ (some 11) rfl rfl Try.func34 (by kernel_rfl) rfl #[.agg #[.int .u64 a0_0, .int .u32 a0_1, .int .u8 a0_2], .agg #[.int .u64 a2_0, .int .u32 a2_1, .int .u8 a2_2]] rfl (by (try simp only [List.map_toArray, List.map_cons, List.map_nil]); first | done | rfl | (simp only [List.length_drop, List.length_take]; rfl)) ?_; (with_reducible refine (tattlerref05_Less.calls a0_0 a0_1 a0_2 a2_0 a2_1 a2_2 false _ A5.out).mono ?_); rintro e w19 ⟨rfl, hb⟩; refine ⟨_, rfl, ?_⟩; have n0_ := Aside0.mk (blk_below (g := gb282) (o := .cells #[.int .u64 a0_0, .int .u32 a0_1, .int .u8 a0_2] 39 (0, 0)) (by (with_reducible repeat (first | refine blk_drewN ?_ _ | refine blk_drew ?_ | refine blk_alloc ?_ _)); exact BK282.out) hb); have n1_ := Aside0.mk (blk_below (g := gb283) (o := .cells #[.int .u64 a2_0, .int .u32 a2_1, .int .u8 a2_2] 39 (0, 0)) (by (with_reducible repeat (first | refine blk_drewN ?_ _ | refine blk_drew ?_ | refine blk_alloc ?_ _)); exact BK283.out) hb); have n2_ := Aside0.mk (below_step (by repeat (first | (with_reducible first | exact HB.out | apply below_alloc | apply pw_below_drewN | apply below_drew1 | refine below_set ?_ GE282.out | refine below_set ?_ GE283.out) | exact HB.out)) hb); clear BK282; clear BK283; clear HB; have BK282 := n0_; have BK283 := n1_; have HB := n2_; clear n0_ n1_ n2_; (try clear hb); (try clear hb2); (try clear hk); (try clear hi); have hcz20_0 : w19.cell? ⟨gb282, 0, none⟩ = some (.int .u64 a0_0) := (blk_cell BK282.out 0).trans rfl; have hcz20_1 : w19.cell? ⟨gb282, 1, none⟩ = some (.int .u32 a0_1) := (blk_cell BK282.out 1).trans rfl; have hcz20_2 : w19.cell? ⟨gb282, 2, none⟩ = some (.int .u8 a0_2) := (blk_cell BK282.out 2).trans rfl; have hfz20_0 := blk_frozen BK282.out 0; have hfz20_1 := blk_frozen BK282.out 1; have hfz20_2 := blk_frozen BK282.out 2; have hcz21_0 : w19.cell? ⟨gb283, 0, none⟩ = some (.int .u64 a2_0) := (blk_cell BK283.out 0).trans rfl; have hcz21_1 : w19.cell? ⟨gb283, 1, none⟩ = some (.int .u32 a2_1) := (blk_cell BK283.out 1).trans rfl; have hcz21_2 : w19.cell? ⟨gb283, 2, none⟩ = some (.int .u8 a2_2) := (blk_cell BK283.out 2).trans rfl; have hfz21_0 := blk_frozen BK283.out 0; have hfz21_1 := blk_frozen BK283.out 1; have hfz21_2 := blk_frozen BK283.out 2))
      go_ret
      exact ⟨by first | rfl | (simp [errW_none, errW_some] <;> rfl) | (simp [*, errW_none, errW_some] <;> rfl), by repeat (first | (with_reducible first | exact HB.out | apply below_alloc | apply pw_below_drewN | apply below_drew1 | refine below_set ?_ GE282.out | refine below_set ?_ GE283.out) | exact HB.out)⟩
    · rw [if_neg c13] at H
      have c13b0 : (a0_0 == a2_0 && (a0_1 == a2_1 && (a0_2 == a2_2))) = false := by simpa using c13
      (try (have c13b1 : decide (a0_0 = a2_0 && (a0_1 == a2_1 && (a0_2 == a2_2))) = false := by simpa using c13))
      (try (have c13b2 : (a0_0 == a2_0 && (a0_1 == a2_1 && (a0_2 == a2_2))) = false := by simpa using c13))
      (try (have c13b3 : ¬ (a0_0 = a2_0 && (a0_1 == a2_1 && (a0_2 == a2_2))) := by simpa using c13))
      clear c13
      obtain rfl := Option.some.inj H
      go_enter Try.func28, Try.ntmps28
      go_wp2_with (first | ((with_reducible refine gate_dst (N := 4) rfl ?_); refine box_event ?hg (N := 4) ?hd (cs := #[.int .u64 a0_0, .int .u32 a0_1, .int .u8 a0_2]) (t := 39) ?hr ?_; (case hd => rfl); (case hg => rfl); (case hr => first | (go_simp; done) | (go_simp; rfl)); intro gb282 hg w22 hbox hb; have n0_ := Aside0.mk (below_step (by repeat (first | (with_reducible first | exact HB.out | apply below_alloc | apply pw_below_drewN | apply below_drew1) | exact HB.out)) hb); have n1_ := Aside0.mk (hbox); have n2_ := Aside0.mk ((by rw [hg]; exact (below_size (by repeat (first | (with_reducible first | exact HB.out | apply below_alloc | apply pw_below_drewN | apply below_drew1) | exact HB.out))) : w.heap.size ≤ gb282)); have n3_ := Aside0.mk ((by rw [hg]; exact (below_size (by repeat (first | (with_reducible first | exact HB.out | apply below_alloc | apply pw_below_drewN | apply below_drew1) | exact HB.out))) : w.heap.size ≤ gb282)); clear HB; have HB := n0_; have BK282 := n1_; have GW282 := n2_; have GE282 := n3_; clear n0_ n1_ n2_ n3_; clear hb hbox hg) | ((with_reducible refine gate_dst (N := 6) rfl ?_); refine box_event ?hg (N := 6) ?hd (cs := #[.int .u64 a2_0, .int .u32 a2_1, .int .u8 a2_2]) (t := 39) ?hr ?_; (case hd => rfl); (case hg => rfl); (case hr => first | (go_simp; done) | (go_simp; rfl)); intro gb283 hg w23 hbox hb; have n0_ := Aside0.mk (blk_below (g := gb282) (o := .cells #[.int .u64 a0_0, .int .u32 a0_1, .int .u8 a0_2] 39 (0, 0)) (by (with_reducible repeat (first | refine blk_drewN ?_ _ | refine blk_drew ?_ | refine blk_alloc ?_ _)); exact BK282.out) hb); have n1_ := Aside0.mk (below_step (by repeat (first | (with_reducible first | exact HB.out | apply below_alloc | apply pw_below_drewN | apply below_drew1 | refine below_set ?_ GE282.out) | exact HB.out)) hb); have n2_ := Aside0.mk (hbox); have n3_ := Aside0.mk ((by rw [hg]; exact (below_size (by repeat (first | (with_reducible first | exact HB.out | apply below_alloc | apply pw_below_drewN | apply below_drew1 | refine below_set ?_ GE282.out) | exact HB.out))) : w.heap.size ≤ gb283)); have n4_ := Aside0.mk ((by rw [hg]; exact (below_size (by repeat (first | (with_reducible first | exact HB.out | apply below_alloc | apply pw_below_drewN | apply below_drew1 | refine below_set ?_ GE282.out) | exact HB.out))) : w.heap.size ≤ gb283)); have n5_ := Aside0.mk ((by rw [hg]; exact Nat.ne_of_lt (blk_lt (g := gb282) (o := .cells #[.int .u64 a0_0, .int .u32 a0_1, .int .u8 a0_2] 39 (0, 0)) (by (with_reducible repeat (first | refine blk_drewN ?_ _ | refine blk_drew ?_ | refine blk_alloc ?_ _)); exact BK282.out)) : gb282 ≠ gb283)); have n6_ := Aside0.mk ((by rw [hg]; exact Nat.ne_of_gt (blk_lt (g := gb282) (o := .cells #[.int .u64 a0_0, .int .u32 a0_1, .int .u8 a0_2] 39 (0, 0)) (by (with_reducible repeat (first | refine blk_drewN ?_ _ | refine blk_drew ?_ | refine blk_alloc ?_ _)); exact BK282.out)) : gb283 ≠ gb282)); clear BK282; clear HB; have BK282 := n0_; have HB := n1_; have BK283 := n2_; have GW283 := n3_; have GE283 := n4_; have NB282_283 := n5_; have NB283_282 := n6_; clear n0_ n1_ n2_ n3_ n4_ n5_ n6_; clear hb hbox hg; have hnb24 := NB282_283.out; have hnc24 := NB283_282.out; have hcz25_0 : w23.cell? ⟨gb282, 0, none⟩ = some (.int .u64 a0_0) := (blk_cell BK282.out 0).trans rfl; have hcz25_1 : w23.cell? ⟨gb282, 1, none⟩ = some (.int .u32 a0_1) := (blk_cell BK282.out 1).trans rfl; have hcz25_2 : w23.cell? ⟨gb282, 2, none⟩ = some (.int .u8 a0_2) := (blk_cell BK282.out 2).trans rfl; have hfz25_0 := blk_frozen BK282.out 0; have hfz25_1 := blk_frozen BK282.out 1; have hfz25_2 := blk_frozen BK282.out 2; have hcz26_0 : w23.cell? ⟨gb283, 0, none⟩ = some (.int .u64 a2_0) := (blk_cell BK283.out 0).trans rfl; have hcz26_1 : w23.cell? ⟨gb283, 1, none⟩ = some (.int .u32 a2_1) := (blk_cell BK283.out 1).trans rfl; have hcz26_2 : w23.cell? ⟨gb283, 2, none⟩ = some (.int .u8 a2_2) := (blk_cell BK283.out 2).trans rfl; have hfz26_0 := blk_frozen BK283.out 0; have hfz26_1 := blk_frozen BK283.out 1; have hfz26_2 := blk_frozen BK283.out 2) | ((with_reducible refine gate_callee (f := 34) rfl ?_); refine goesL_ (some 11) rfl rfl Try.func34 (by kernel_rfl) rfl #[.agg #[.int .u64 a0_0, .int .u32 a0_1, .int .u8 a0_2], .agg #[.int .u64 a2_0, .int .u32 a2_1, .int .u8 a2_2]] rfl (by (try simp only [List.map_toArray, List.map_cons, List.map_nil]); first | done | rfl | (simp only [List.length_drop, List.length_take]; rfl)) ?_; (with_reducible refine (tattlerref05_Less.calls a0_0 a0_1 a0_2 a2_0 a2_1 a2_2 false _ A5.out).mono ?_); rintro e w27 ⟨rfl, hb⟩; refine ⟨_, rfl, ?_⟩; have n0_ := Aside0.mk (blk_below (g := gb282) (o := .cells #[.int .u64 a0_0, .int .u32 a0_1, .int .u8 a0_2] 39 (0, 0)) (by (with_reducible repeat (first | refine blk_drewN ?_ _ | refine blk_drew ?_ | refine blk_alloc ?_ _)); exact BK282.out) hb); have n1_ := Aside0.mk (blk_below (g := gb283) (o := .cells #[.int .u64 a2_0, .int .u32 a2_1, .int .u8 a2_2] 39 (0, 0)) (by (with_reducible repeat (first | refine blk_drewN ?_ _ | refine blk_drew ?_ | refine blk_alloc ?_ _)); exact BK283.out) hb); have n2_ := Aside0.mk (below_step (by repeat (first | (with_reducible first | exact HB.out | apply below_alloc | apply pw_below_drewN | apply below_drew1 | refine below_set ?_ GE282.out | refine below_set ?_ GE283.out) | exact HB.out)) hb); clear BK282; clear BK283; clear HB; have BK282 := n0_; have BK283 := n1_; have HB := n2_; clear n0_ n1_ n2_; (try clear hb); (try clear hb2); (try clear hk); (try clear hi); have hcz28_0 : w27.cell? ⟨gb282, 0, none⟩ = some (.int .u64 a0_0) := (blk_cell BK282.out 0).trans rfl; have hcz28_1 : w27.cell? ⟨gb282, 1, none⟩ = some (.int .u32 a0_1) := (blk_cell BK282.out 1).trans rfl; have hcz28_2 : w27.cell? ⟨gb282, 2, none⟩ = some (.int .u8 a0_2) := (blk_cell BK282.out 2).trans rfl; have hfz28_0 := blk_frozen BK282.out 0; have hfz28_1 := blk_frozen BK282.out 1; have hfz28_2 := blk_frozen BK282.out 2; have hcz29_0 : w27.cell? ⟨gb283, 0, none⟩ = some (.int .u64 a2_0) := (blk_cell BK283.out 0).trans rfl; have hcz29_1 : w27.cell? ⟨gb283, 1, none⟩ = some (.int .u32 a2_1) := (blk_cell BK283.out 1).trans rfl; have hcz29_2 : w27.cell? ⟨gb283, 2, none⟩ = some (.int .u8 a2_2) := (blk_cell BK283.out 2).trans rfl; have hfz29_0 := blk_frozen BK283.out 0; have hfz29_1 := blk_frozen BK283.out 1; have hfz29_2 := blk_frozen BK283.out 2))
      go_ret
      exact ⟨by first | rfl | (simp [errW_none, errW_some] <;> rfl) | (simp [*, errW_none, errW_some] <;> rfl), by repeat (first | (with_reducible first | exact HB.out | apply below_alloc | apply pw_below_drewN | apply below_drew1 | refine below_set ?_ GE282.out | refine below_set ?_ GE283.out) | exact HB.out)⟩

end Go.Proofs.Ytepceielndmjgaa.PSweepTells
