import Derived.Test.YtepceielndmjgaaPSweepTellsx0
namespace Go.Proofs.Ytepceielndmjgaa.PSweepTells
open Go.RowKit Go.Proofs.YtepceielndmjgaaW.PrintWords Go.Proofs.YtepceielndmjgaaW.PrintLast Go.Proofs.YtepceielndmjgaaW.PrintMore
attribute [local go_sem] max2_int min2_int max_two min_two max_three min_three max_four min_four   -- for this text's walks alone
set_option linter.unusedVariables false
set_option linter.unusedSimpArgs false

/-! ### tattlerlaw15_give: function 19 -/
mutual
def tattlerlaw15_give.l0 : Nat → List (S41) → List (S41) → List (S41) → List (S41) → Int → Int → Option ((List (S41)))
  | 0, _, _, _, _, _, _ => none
  | k + 1, x0, x1, x5, x15, x16, x17 => if x17 < x16 then (if 0 ≤ x17 then (if x17 < (x15.length : Int) then (tattlerlaw15_give.l1 k x0 x1 x5 x15 x16 x17 x1 (x1.length : Int) 0 ((rd_T41 x15 x17).f0) ((rd_T41 x15 x17).f1.f0) ((rd_T41 x15 x17).f1.f1) ((rd_T41 x15 x17).f1.f2) ((rd_T41 x15 x17).f2) ((rd_T41 x15 x17).f3) ((rd_T41 x15 x17).f4) ((rd_T41 x15 x17).f5)) else (none)) else (none)) else (tattlerlaw15_give.l2 k x0 x5 x1 (x1.length : Int) 0)
def tattlerlaw15_give.l1 : Nat → List (S41) → List (S41) → List (S41) → List (S41) → Int → Int → List (S41) → Int → Int → ByteArray → Int → Int → Int → Int → Int → Int → ByteArray → Option ((List (S41)))
  | 0, _, _, _, _, _, _, _, _, _, _, _, _, _, _, _, _, _ => none
  | k + 1, x0, x1, x5, x15, x16, x17, x21, x22, x23, x269000, x269001, x269002, x269003, x269004, x269005, x269006, x269007 => if x23 < x22 then (if 0 ≤ x23 then (if x23 < (x21.length : Int) then (if ((rd_T41 x21 x23).f0).toList = x269000.toList then (tattlerlaw15_give.l1 k x0 x1 x5 x15 x16 x17 x21 x22 (wrap64 (x23 + 1)) ((rd_T41 x21 x23).f0) ((rd_T41 x21 x23).f1.f0) ((rd_T41 x21 x23).f1.f1) ((rd_T41 x21 x23).f1.f2) ((rd_T41 x21 x23).f2) ((rd_T41 x21 x23).f3) ((rd_T41 x21 x23).f4) ((rd_T41 x21 x23).f5)) else (tattlerlaw15_give.l1 k x0 x1 x5 x15 x16 x17 x21 x22 (wrap64 (x23 + 1)) x269000 x269001 x269002 x269003 x269004 x269005 x269006 x269007)) else (none)) else (none)) else (if x5.length < 2199023255552 then (tattlerlaw15_give.l0 k x0 x1 (x5 ++ [(⟨x269000, (⟨x269001, x269002, x269003⟩ : S39), x269004, x269005, x269006, x269007⟩ : S41)]) x15 x16 (wrap64 (x17 + 1))) else (none))
def tattlerlaw15_give.l2 : Nat → List (S41) → List (S41) → List (S41) → Int → Int → Option ((List (S41)))
  | 0, _, _, _, _, _ => none
  | k + 1, x0, x5, x39, x40, x41 => if x41 < x40 then (if 0 ≤ x41 then (if x41 < (x39.length : Int) then (tattlerlaw15_give.l3 k x0 x5 false x39 x40 x41 x0 (x0.length : Int) 0 ((rd_T41 x39 x41).f0) ((rd_T41 x39 x41).f1.f0) ((rd_T41 x39 x41).f1.f1) ((rd_T41 x39 x41).f1.f2) ((rd_T41 x39 x41).f2) ((rd_T41 x39 x41).f3) ((rd_T41 x39 x41).f4) ((rd_T41 x39 x41).f5)) else (none)) else (none)) else (some x5)
def tattlerlaw15_give.l3 : Nat → List (S41) → List (S41) → Bool → List (S41) → Int → Int → List (S41) → Int → Int → ByteArray → Int → Int → Int → Int → Int → Int → ByteArray → Option ((List (S41)))
  | 0, _, _, _, _, _, _, _, _, _, _, _, _, _, _, _, _, _ => none
  | k + 1, x0, x5, x12, x39, x40, x41, x45, x46, x47, x276000, x276001, x276002, x276003, x276004, x276005, x276006, x276007 => if x47 < x46 then (if 0 ≤ x47 then (if x47 < (x45.length : Int) then (if x12 = true then (tattlerlaw15_give.l3 k x0 x5 true x39 x40 x41 x45 x46 (wrap64 (x47 + 1)) x276000 x276001 x276002 x276003 x276004 x276005 x276006 x276007) else (tattlerlaw15_give.l3 k x0 x5 (((rd_T41 x45 x47).f0).toList == x276000.toList) x39 x40 x41 x45 x46 (wrap64 (x47 + 1)) x276000 x276001 x276002 x276003 x276004 x276005 x276006 x276007)) else (none)) else (none)) else (if x12 = true then (tattlerlaw15_give.l2 k x0 x5 x39 x40 (wrap64 (x41 + 1))) else (if x5.length < 2199023255552 then (tattlerlaw15_give.l2 k x0 (x5 ++ [(⟨x276000, (⟨x276001, x276002, x276003⟩ : S39), x276004, x276005, x276006, x276007⟩ : S41)]) x39 x40 (wrap64 (x41 + 1))) else (none)))
end
def tattlerlaw15_give.f (k : Nat) (l0 : List (S41)) (l1 : List (S41)) : Option ((List (S41))) := tattlerlaw15_give.l0 k l0 l1 ([] : List (S41)) l0 (l0.length : Int) 0
theorem tattlerlaw15_give.mono_l : ∀ k, (∀ y0 y1 y2 y3 y4 y5, LeO (tattlerlaw15_give.l0 k y0 y1 y2 y3 y4 y5) (tattlerlaw15_give.l0 (k + 1) y0 y1 y2 y3 y4 y5)) ∧ (∀ y0 y1 y2 y3 y4 y5 y6 y7 y8 y9 y10 y11 y12 y13 y14 y15 y16, LeO (tattlerlaw15_give.l1 k y0 y1 y2 y3 y4 y5 y6 y7 y8 y9 y10 y11 y12 y13 y14 y15 y16) (tattlerlaw15_give.l1 (k + 1) y0 y1 y2 y3 y4 y5 y6 y7 y8 y9 y10 y11 y12 y13 y14 y15 y16)) ∧ (∀ y0 y1 y2 y3 y4, LeO (tattlerlaw15_give.l2 k y0 y1 y2 y3 y4) (tattlerlaw15_give.l2 (k + 1) y0 y1 y2 y3 y4)) ∧ (∀ y0 y1 y2 y3 y4 y5 y6 y7 y8 y9 y10 y11 y12 y13 y14 y15 y16, LeO (tattlerlaw15_give.l3 k y0 y1 y2 y3 y4 y5 y6 y7 y8 y9 y10 y11 y12 y13 y14 y15 y16) (tattlerlaw15_give.l3 (k + 1) y0 y1 y2 y3 y4 y5 y6 y7 y8 y9 y10 y11 y12 y13 y14 y15 y16))
  | 0 => ⟨fun _ _ _ _ _ _ r h => by simp [tattlerlaw15_give.l0] at h, fun _ _ _ _ _ _ _ _ _ _ _ _ _ _ _ _ _ r h => by simp [tattlerlaw15_give.l1] at h, fun _ _ _ _ _ r h => by simp [tattlerlaw15_give.l2] at h, fun _ _ _ _ _ _ _ _ _ _ _ _ _ _ _ _ _ r h => by simp [tattlerlaw15_give.l3] at h⟩
  | k + 1 => by
    obtain ⟨ih0, ih1, ih2, ih3⟩ := tattlerlaw15_give.mono_l k
    refine ⟨?_, ?_, ?_, ?_⟩
    · intro y0 y1 y2 y3 y4 y5
      unfold tattlerlaw15_give.l0
      repeat' first
      | (with_reducible exact ih0 _ _ _ _ _ _)
      | (with_reducible exact ih1 _ _ _ _ _ _ _ _ _ _ _ _ _ _ _ _ _)
      | (with_reducible exact ih2 _ _ _ _ _)
      | (with_reducible exact ih3 _ _ _ _ _ _ _ _ _ _ _ _ _ _ _ _ _)
      | (with_reducible exact LeO.refl _)
      | (with_reducible exact LeO.none _)
      | (with_reducible refine LeO.ite ?_ ?_)
      | (with_reducible refine LeO.bind ?_ (fun _ => ?_))
      | exact ih0 _ _ _ _ _ _
      | exact ih1 _ _ _ _ _ _ _ _ _ _ _ _ _ _ _ _ _
      | exact ih2 _ _ _ _ _
      | exact ih3 _ _ _ _ _ _ _ _ _ _ _ _ _ _ _ _ _
      | exact LeO.none _
      | refine LeO.ite ?_ ?_
      | refine LeO.bind ?_ (fun _ => ?_)
    · intro y0 y1 y2 y3 y4 y5 y6 y7 y8 y9 y10 y11 y12 y13 y14 y15 y16
      unfold tattlerlaw15_give.l1
      repeat' first
      | (with_reducible exact ih0 _ _ _ _ _ _)
      | (with_reducible exact ih1 _ _ _ _ _ _ _ _ _ _ _ _ _ _ _ _ _)
      | (with_reducible exact ih2 _ _ _ _ _)
      | (with_reducible exact ih3 _ _ _ _ _ _ _ _ _ _ _ _ _ _ _ _ _)
      | (with_reducible exact LeO.refl _)
      | (with_reducible exact LeO.none _)
      | (with_reducible refine LeO.ite ?_ ?_)
      | (with_reducible refine LeO.bind ?_ (fun _ => ?_))
      | exact ih0 _ _ _ _ _ _
      | exact ih1 _ _ _ _ _ _ _ _ _ _ _ _ _ _ _ _ _
      | exact ih2 _ _ _ _ _
      | exact ih3 _ _ _ _ _ _ _ _ _ _ _ _ _ _ _ _ _
      | exact LeO.none _
      | refine LeO.ite ?_ ?_
      | refine LeO.bind ?_ (fun _ => ?_)
    · intro y0 y1 y2 y3 y4
      unfold tattlerlaw15_give.l2
      repeat' first
      | (with_reducible exact ih0 _ _ _ _ _ _)
      | (with_reducible exact ih1 _ _ _ _ _ _ _ _ _ _ _ _ _ _ _ _ _)
      | (with_reducible exact ih2 _ _ _ _ _)
      | (with_reducible exact ih3 _ _ _ _ _ _ _ _ _ _ _ _ _ _ _ _ _)
      | (with_reducible exact LeO.refl _)
      | (with_reducible exact LeO.none _)
      | (with_reducible refine LeO.ite ?_ ?_)
      | (with_reducible refine LeO.bind ?_ (fun _ => ?_))
      | exact ih0 _ _ _ _ _ _
      | exact ih1 _ _ _ _ _ _ _ _ _ _ _ _ _ _ _ _ _
      | exact ih2 _ _ _ _ _
      | exact ih3 _ _ _ _ _ _ _ _ _ _ _ _ _ _ _ _ _
      | exact LeO.none _
      | refine LeO.ite ?_ ?_
      | refine LeO.bind ?_ (fun _ => ?_)
    · intro y0 y1 y2 y3 y4 y5 y6 y7 y8 y9 y10 y11 y12 y13 y14 y15 y16
      unfold tattlerlaw15_give.l3
      repeat' first
      | (with_reducible exact ih0 _ _ _ _ _ _)
      | (with_reducible exact ih1 _ _ _ _ _ _ _ _ _ _ _ _ _ _ _ _ _)
      | (with_reducible exact ih2 _ _ _ _ _)
      | (with_reducible exact ih3 _ _ _ _ _ _ _ _ _ _ _ _ _ _ _ _ _)
      | (with_reducible exact LeO.refl _)
      | (with_reducible exact LeO.none _)
      | (with_reducible refine LeO.ite ?_ ?_)
      | (with_reducible refine LeO.bind ?_ (fun _ => ?_))
      | exact ih0 _ _ _ _ _ _
      | exact ih1 _ _ _ _ _ _ _ _ _ _ _ _ _ _ _ _ _
      | exact ih2 _ _ _ _ _
      | exact ih3 _ _ _ _ _ _ _ _ _ _ _ _ _ _ _ _ _
      | exact LeO.none _
      | refine LeO.ite ?_ ?_
      | refine LeO.bind ?_ (fun _ => ?_)
theorem tattlerlaw15_give.mono : ∀ a0 a1 k, LeO (tattlerlaw15_give.f k a0 a1) (tattlerlaw15_give.f (k + 1) a0 a1) := by
  intro a0 a1 k
  obtain ⟨ih0, ih1, ih2, ih3⟩ := tattlerlaw15_give.mono_l k
  unfold tattlerlaw15_give.f
  repeat' first
      | (with_reducible exact ih0 _ _ _ _ _ _)
      | (with_reducible exact ih1 _ _ _ _ _ _ _ _ _ _ _ _ _ _ _ _ _)
      | (with_reducible exact ih2 _ _ _ _ _)
      | (with_reducible exact ih3 _ _ _ _ _ _ _ _ _ _ _ _ _ _ _ _ _)
      | (with_reducible exact LeO.refl _)
      | (with_reducible exact LeO.none _)
      | (with_reducible refine LeO.ite ?_ ?_)
      | (with_reducible refine LeO.bind ?_ (fun _ => ?_))
      | exact ih0 _ _ _ _ _ _
      | exact ih1 _ _ _ _ _ _ _ _ _ _ _ _ _ _ _ _ _
      | exact ih2 _ _ _ _ _
      | exact ih3 _ _ _ _ _ _ _ _ _ _ _ _ _ _ _ _ _
      | exact LeO.none _
      | refine LeO.ite ?_ ?_
      | refine LeO.bind ?_ (fun _ => ?_)
set_option maxHeartbeats 8000000 in
set_option maxRecDepth 100000 in
theorem tattlerlaw15_give.calls (k : Nat) (A0 : Option Addr) (c0 : Nat) (l0 : List (S41)) (A1 : Option Addr) (c1 : Nat) (l1 : List (S41)) (r : List (S41)) (w : World) (hr0 : Kd.C k41 w A0 l0.length l0) (hc0 : l0.length ≤ c0) (hr1 : Kd.C k41 w A1 l1.length l1) (hc1 : l1.length ≤ c1) (h : tattlerlaw15_give.f k l0 l1 = some r) :
    Calls Try.prog 19 #[.slice A0 l0.length c0, .slice A1 l1.length c1] w fun e w' => ∃ v0_ : Value, e = .returned (v0_) ∧ Kd.R k41 41 w' w.heap.size (fun _ => True) v0_ r ∧ Below w.heap.size w w' := by
  have hu41 := Try.underlying41
  have HR0 := Aside0.mk hr0
  have HC0 := Aside0.mk hc0
  clear hr0 hc0
  have HR1 := Aside0.mk hr1
  have HC1 := Aside0.mk hc1
  clear hr1 hc1
  have HB := Aside0.mk (Below.refl w.heap.size w)
  have H : (tattlerlaw15_give.l0 k l0 l1 ([] : List (S41)) l0 (l0.length : Int) 0) = some r := h
  clear h
  have H' := Aside0.mk H
  clear H
  go_enter Try.func19, Try.ntmps19
  go_wp2
  go_loopg [5, 17] k (fun kq v5 v17 w' => ∃ (x5_1 : List (S41)) (x17_1 : Int), v17 = .int .i64 x17_1 ∧ Aside0 (tattlerlaw15_give.l0 kq l0 l1 x5_1 l0 (l0.length : Int) x17_1 = some r) ∧ Aside0 (kq ≤ k) ∧ Aside0 (Kd.R k41 41 w' w.heap.size (fun _ => True) v5 x5_1) ∧ Aside0 (Below w.heap.size w w'))
  case atStart => exact ⟨(([] : List (S41))), (0), (by first | rfl | (simp; done) | (simp [*]; done)), H', ⟨Nat.le_refl _⟩, ⟨by first | exact Kd.R_nil _ _ _ _ _ | exact Kd.N_nil _ _ _ _ _ | exact Kd.V_nil _ _ _ _ _ | exact Kd.Q_nil _ _ _ _ _ | exact Kd.S_nil _ _ _ _ _⟩, ⟨by repeat (first | (with_reducible first | exact HB.out | apply below_alloc | apply pw_below_drewN | apply below_drew1) | exact HB.out)⟩⟩
  case round =>
    clear H'
    try clear c1
    try clear p2
    obtain ⟨x5_1, x17_1, rfl, HA, HK1, HO_5, HB⟩ := hrel
    cases gk with
    | zero => exact absurd HA.out (by simp [tattlerlaw15_give.l0])
    | succ k1 =>
      have H := HA.out
      clear HA
      simp only [tattlerlaw15_give.l0] at H
      by_cases c3 : x17_1 < (l0.length : Int)
      · rw [if_pos c3] at H
        have c3b0 : decide (x17_1 < (l0.length : Int)) = true := decide_eq_true c3
        clear c3
        by_cases c4 : 0 ≤ x17_1
        · rw [if_pos c4] at H
          have c4b0 : decide (0 ≤ x17_1) = true := decide_eq_true c4
          clear c4
          by_cases c5 : x17_1 < (l0.length : Int)
          · rw [if_pos c5] at H
            have c5b0 : decide (x17_1 < (l0.length : Int)) = true := decide_eq_true c5
            clear c5
            have H' := Aside0.mk H
            clear H
            have p267 : 0 ≤ (x17_1 : Int) := of_decide_eq_true (by first | (with_reducible assumption) | assumption)
            have q267 : x17_1 < (l0.length : Int) := of_decide_eq_true (by first | (with_reducible assumption) | assumption)
            obtain ⟨ad267, e267, hx267_0, hx267_1, hx267_2, hx267_3, hx267_4, hx267_5, hx267_6, hx267_7⟩ := at_T41 HR0.out x17_1 p267 q267
            cases e267
            replace hx267_0 := (HB.out.cell (World.block_lt_of_cell? w _ hx267_0)).trans hx267_0
            replace hx267_1 := (HB.out.cell (World.block_lt_of_cell? w _ hx267_1)).trans hx267_1
            replace hx267_2 := (HB.out.cell (World.block_lt_of_cell? w _ hx267_2)).trans hx267_2
            replace hx267_3 := (HB.out.cell (World.block_lt_of_cell? w _ hx267_3)).trans hx267_3
            replace hx267_4 := (HB.out.cell (World.block_lt_of_cell? w _ hx267_4)).trans hx267_4
            replace hx267_5 := (HB.out.cell (World.block_lt_of_cell? w _ hx267_5)).trans hx267_5
            replace hx267_6 := (HB.out.cell (World.block_lt_of_cell? w _ hx267_6)).trans hx267_6
            replace hx267_7 := (HB.out.cell (World.block_lt_of_cell? w _ hx267_7)).trans hx267_7
            replace p267 := eq_true p267
            replace q267 := eq_true q267
            go_wp2_with (first | ((with_reducible refine gate_dst (N := 7) rfl ?_); refine box_event ?hg (N := 7) ?hd (cs := #[.string (⟨#[]⟩ : ByteArray), .int .u64 0, .int .u32 0, .int .u8 0, .int .u8 0, .int .u32 0, .int .u64 0, .string (⟨#[]⟩ : ByteArray)]) (t := 41) ?hr ?_; (case hd => rfl); (case hg => rfl); (case hr => first | (go_simp; done) | (go_simp; rfl)); intro gb268 hg w6 hbox hb; have n0_ := Aside0.mk (Kd.R_below (Kd.R_elderB (by (with_reducible repeat (first | apply Kd.R_alloc | apply Kd.R_drewN | apply Kd.R_drew)); exact HO_5.out) gb268 (Nat.le_of_eq hg.symm)) hb); have n1_ := Aside0.mk (below_step (by repeat (first | (with_reducible first | exact HB.out | apply below_alloc | apply pw_below_drewN | apply below_drew1) | exact HB.out)) hb); have n2_ := Aside0.mk (hbox); have n3_ := Aside0.mk ((by rw [hg]; exact (below_size (by repeat (first | (with_reducible first | exact HB.out | apply below_alloc | apply pw_below_drewN | apply below_drew1) | exact HB.out))) : w.heap.size ≤ gb268)); have n4_ := Aside0.mk ((by rw [hg]; exact (below_size (by repeat (first | (with_reducible first | exact HB.out | apply below_alloc | apply pw_below_drewN | apply below_drew1) | exact HB.out))) : w.heap.size ≤ gb268)); clear HO_5; clear HB; have HO_5 := n0_; have HB := n1_; have BK268 := n2_; have GW268 := n3_; have GE268 := n4_; clear n0_ n1_ n2_ n3_ n4_; clear hb hbox hg; have hcz7_0 : w6.cell? ⟨gb268, 0, none⟩ = some (.string (⟨#[]⟩ : ByteArray)) := (blk_cell BK268.out 0).trans rfl; have hcz7_1 : w6.cell? ⟨gb268, 1, none⟩ = some (.int .u64 0) := (blk_cell BK268.out 1).trans rfl; have hcz7_2 : w6.cell? ⟨gb268, 2, none⟩ = some (.int .u32 0) := (blk_cell BK268.out 2).trans rfl; have hcz7_3 : w6.cell? ⟨gb268, 3, none⟩ = some (.int .u8 0) := (blk_cell BK268.out 3).trans rfl; have hcz7_4 : w6.cell? ⟨gb268, 4, none⟩ = some (.int .u8 0) := (blk_cell BK268.out 4).trans rfl; have hcz7_5 : w6.cell? ⟨gb268, 5, none⟩ = some (.int .u32 0) := (blk_cell BK268.out 5).trans rfl; have hcz7_6 : w6.cell? ⟨gb268, 6, none⟩ = some (.int .u64 0) := (blk_cell BK268.out 6).trans rfl; have hcz7_7 : w6.cell? ⟨gb268, 7, none⟩ = some (.string (⟨#[]⟩ : ByteArray)) := (blk_cell BK268.out 7).trans rfl; have hfz7_0 := blk_frozen BK268.out 0; have hfz7_1 := blk_frozen BK268.out 1; have hfz7_2 := blk_frozen BK268.out 2; have hfz7_3 := blk_frozen BK268.out 3; have hfz7_4 := blk_frozen BK268.out 4; have hfz7_5 := blk_frozen BK268.out 5; have hfz7_6 := blk_frozen BK268.out 6; have hfz7_7 := blk_frozen BK268.out 7))
            go_loopg [23] k1 (fun kq v23 w' => ∃ (x23_2 : Int) (x269000_2 : ByteArray) (x269001_2 : Int) (x269002_2 : Int) (x269003_2 : Int) (x269004_2 : Int) (x269005_2 : Int) (x269006_2 : Int) (x269007_2 : ByteArray), v23 = .int .i64 x23_2 ∧ Aside0 (tattlerlaw15_give.l1 kq l0 l1 x5_1 l0 (l0.length : Int) x17_1 l1 (l1.length : Int) x23_2 x269000_2 x269001_2 x269002_2 x269003_2 x269004_2 x269005_2 x269006_2 x269007_2 = some r) ∧ Aside0 (kq ≤ k1) ∧ Aside0 (Kd.R k41 41 w' w.heap.size (fun k_ => k_ ≠ gb268) u5 x5_1) ∧ Aside0 (w'.heap[gb268]? = some (.cells #[.string x269000_2, .int .u64 x269001_2, .int .u32 x269002_2, .int .u8 x269003_2, .int .u8 x269004_2, .int .u32 x269005_2, .int .u64 x269006_2, .string x269007_2] 41 (0, 0))) ∧ Aside0 (Below w.heap.size w w'))
            case atStart => exact ⟨(0), ((rd_T41 l0 x17_1).f0), ((rd_T41 l0 x17_1).f1.f0), ((rd_T41 l0 x17_1).f1.f1), ((rd_T41 l0 x17_1).f1.f2), ((rd_T41 l0 x17_1).f2), ((rd_T41 l0 x17_1).f3), ((rd_T41 l0 x17_1).f4), ((rd_T41 l0 x17_1).f5), (by first | rfl | (simp; done) | (simp [*]; done)), H', ⟨Nat.le_refl _⟩, ⟨by (with_reducible repeat (first | apply Kd.R_alloc | apply Kd.R_drewN | apply Kd.R_drew)); exact Kd.R_mono (Kd.R_far (p := ⟨gb268, 7, none⟩) (Kd.R_far (p := ⟨gb268, 6, none⟩) (Kd.R_far (p := ⟨gb268, 5, none⟩) (Kd.R_far (p := ⟨gb268, 4, none⟩) (Kd.R_far (p := ⟨gb268, 3, none⟩) (Kd.R_far (p := ⟨gb268, 2, none⟩) (Kd.R_far (p := ⟨gb268, 1, none⟩) (Kd.R_far (p := ⟨gb268, 0, none⟩) (Kd.R_mono HO_5.out (fun k_ hk => (⟨hk, hk.2⟩ : _ ∧ k_ ≠ gb268))) (fun _ hk => hk.2) (.string ((rd_T41 l0 x17_1).f0))) (fun _ hk => hk.2) (.int .u64 ((rd_T41 l0 x17_1).f1.f0))) (fun _ hk => hk.2) (.int .u32 ((rd_T41 l0 x17_1).f1.f1))) (fun _ hk => hk.2) (.int .u8 ((rd_T41 l0 x17_1).f1.f2))) (fun _ hk => hk.2) (.int .u8 ((rd_T41 l0 x17_1).f2))) (fun _ hk => hk.2) (.int .u32 ((rd_T41 l0 x17_1).f3))) (fun _ hk => hk.2) (.int .u64 ((rd_T41 l0 x17_1).f4))) (fun _ hk => hk.2) (.string ((rd_T41 l0 x17_1).f5))) (fun _ hk => hk.1.2)⟩, ⟨by (with_reducible repeat (first | refine blk_drewN ?_ _ | refine blk_drew ?_ | refine blk_alloc ?_ _)); refine blk_put (cs := #[.string ((rd_T41 l0 x17_1).f0), .int .u64 ((rd_T41 l0 x17_1).f1.f0), .int .u32 ((rd_T41 l0 x17_1).f1.f1), .int .u8 ((rd_T41 l0 x17_1).f1.f2), .int .u8 ((rd_T41 l0 x17_1).f2), .int .u32 ((rd_T41 l0 x17_1).f3), .int .u64 ((rd_T41 l0 x17_1).f4), .string (⟨#[]⟩ : ByteArray)]) ?_ 7 _ rfl; (with_reducible repeat (first | refine blk_drewN ?_ _ | refine blk_drew ?_ | refine blk_alloc ?_ _)); refine blk_put (cs := #[.string ((rd_T41 l0 x17_1).f0), .int .u64 ((rd_T41 l0 x17_1).f1.f0), .int .u32 ((rd_T41 l0 x17_1).f1.f1), .int .u8 ((rd_T41 l0 x17_1).f1.f2), .int .u8 ((rd_T41 l0 x17_1).f2), .int .u32 ((rd_T41 l0 x17_1).f3), .int .u64 0, .string (⟨#[]⟩ : ByteArray)]) ?_ 6 _ rfl; (with_reducible repeat (first | refine blk_drewN ?_ _ | refine blk_drew ?_ | refine blk_alloc ?_ _)); refine blk_put (cs := #[.string ((rd_T41 l0 x17_1).f0), .int .u64 ((rd_T41 l0 x17_1).f1.f0), .int .u32 ((rd_T41 l0 x17_1).f1.f1), .int .u8 ((rd_T41 l0 x17_1).f1.f2), .int .u8 ((rd_T41 l0 x17_1).f2), .int .u32 0, .int .u64 0, .string (⟨#[]⟩ : ByteArray)]) ?_ 5 _ rfl; (with_reducible repeat (first | refine blk_drewN ?_ _ | refine blk_drew ?_ | refine blk_alloc ?_ _)); refine blk_put (cs := #[.string ((rd_T41 l0 x17_1).f0), .int .u64 ((rd_T41 l0 x17_1).f1.f0), .int .u32 ((rd_T41 l0 x17_1).f1.f1), .int .u8 ((rd_T41 l0 x17_1).f1.f2), .int .u8 0, .int .u32 0, .int .u64 0, .string (⟨#[]⟩ : ByteArray)]) ?_ 4 _ rfl; (with_reducible repeat (first | refine blk_drewN ?_ _ | refine blk_drew ?_ | refine blk_alloc ?_ _)); refine blk_put (cs := #[.string ((rd_T41 l0 x17_1).f0), .int .u64 ((rd_T41 l0 x17_1).f1.f0), .int .u32 ((rd_T41 l0 x17_1).f1.f1), .int .u8 0, .int .u8 0, .int .u32 0, .int .u64 0, .string (⟨#[]⟩ : ByteArray)]) ?_ 3 _ rfl; (with_reducible repeat (first | refine blk_drewN ?_ _ | refine blk_drew ?_ | refine blk_alloc ?_ _)); refine blk_put (cs := #[.string ((rd_T41 l0 x17_1).f0), .int .u64 ((rd_T41 l0 x17_1).f1.f0), .int .u32 0, .int .u8 0, .int .u8 0, .int .u32 0, .int .u64 0, .string (⟨#[]⟩ : ByteArray)]) ?_ 2 _ rfl; (with_reducible repeat (first | refine blk_drewN ?_ _ | refine blk_drew ?_ | refine blk_alloc ?_ _)); refine blk_put (cs := #[.string ((rd_T41 l0 x17_1).f0), .int .u64 0, .int .u32 0, .int .u8 0, .int .u8 0, .int .u32 0, .int .u64 0, .string (⟨#[]⟩ : ByteArray)]) ?_ 1 _ rfl; (with_reducible repeat (first | refine blk_drewN ?_ _ | refine blk_drew ?_ | refine blk_alloc ?_ _)); refine blk_put (cs := #[.string (⟨#[]⟩ : ByteArray), .int .u64 0, .int .u32 0, .int .u8 0, .int .u8 0, .int .u32 0, .int .u64 0, .string (⟨#[]⟩ : ByteArray)]) ?_ 0 _ rfl; (with_reducible repeat (first | refine blk_drewN ?_ _ | refine blk_drew ?_ | refine blk_alloc ?_ _)); exact BK268.out⟩, ⟨by repeat (first | (with_reducible first | exact HB.out | apply below_alloc | apply pw_below_drewN | apply below_drew1 | refine below_set ?_ GE268.out) | exact HB.out)⟩⟩
            case round =>
              clear H'
              try clear c1
              try clear p2
              try clear q2
              try clear hx2
              try clear c3
              try clear c3b0
              try clear c4
              try clear c4b0
              try clear c5
              try clear c5b0
              try clear hcz7_0
              try clear hcz7_1
              try clear hcz7_2
              try clear hcz7_3
              try clear hcz7_4
              try clear hcz7_5
              try clear hcz7_6
              try clear hcz7_7
              try clear hfz7_0
              try clear hfz7_1
              try clear hfz7_2
              try clear hfz7_3
              try clear hfz7_4
              try clear hfz7_5
              try clear hfz7_6
              try clear hfz7_7
              try clear hx267_0
              try clear hx267_1
              try clear hx267_2
              try clear hx267_3
              try clear hx267_4
              try clear hx267_5
              try clear hx267_6
              try clear hx267_7
              try clear p2
              try clear p267
              try clear q267
              obtain ⟨x23_2, x269000_2, x269001_2, x269002_2, x269003_2, x269004_2, x269005_2, x269006_2, x269007_2, rfl, HA, HK2, HO_5, BK268, HB⟩ := hrel
              cases gk with
              | zero => exact absurd HA.out (by simp [tattlerlaw15_give.l1])
              | succ k2 =>
                have H := HA.out
                clear HA
                simp only [tattlerlaw15_give.l1] at H
                by_cases c8 : x23_2 < (l1.length : Int)
                · rw [if_pos c8] at H
                  have c8b0 : decide (x23_2 < (l1.length : Int)) = true := decide_eq_true c8
                  clear c8
                  by_cases c9 : 0 ≤ x23_2
                  · rw [if_pos c9] at H
                    have c9b0 : decide (0 ≤ x23_2) = true := decide_eq_true c9
                    clear c9
                    by_cases c10 : x23_2 < (l1.length : Int)
                    · rw [if_pos c10] at H
                      have c10b0 : decide (x23_2 < (l1.length : Int)) = true := decide_eq_true c10
                      clear c10
                      by_cases c11 : ((rd_T41 l1 x23_2).f0).toList = x269000_2.toList
                      · rw [if_pos c11] at H
                        have c11b0 : (((rd_T41 l1 x23_2).f0).toList == x269000_2.toList) = true := beq_iff_eq.mpr c11
                        have c11b1 : (((rd_T41 l1 x23_2).f0).toList != x269000_2.toList) = false := bne_eq_false_iff_eq.mpr c11
                        clear c11
                        have H' := Aside0.mk H
                        clear H
                        have p269 : 0 ≤ (x23_2 : Int) := of_decide_eq_true (by first | (with_reducible assumption) | assumption)
                        have q269 : x23_2 < (l1.length : Int) := of_decide_eq_true (by first | (with_reducible assumption) | assumption)
                        obtain ⟨ad269, e269, hx269_0, hx269_1, hx269_2, hx269_3, hx269_4, hx269_5, hx269_6, hx269_7⟩ := at_T41 HR1.out x23_2 p269 q269
                        cases e269
                        replace hx269_0 := (HB.out.cell (World.block_lt_of_cell? w _ hx269_0)).trans hx269_0
                        replace hx269_1 := (HB.out.cell (World.block_lt_of_cell? w _ hx269_1)).trans hx269_1
                        replace hx269_2 := (HB.out.cell (World.block_lt_of_cell? w _ hx269_2)).trans hx269_2
                        replace hx269_3 := (HB.out.cell (World.block_lt_of_cell? w _ hx269_3)).trans hx269_3
                        replace hx269_4 := (HB.out.cell (World.block_lt_of_cell? w _ hx269_4)).trans hx269_4
                        replace hx269_5 := (HB.out.cell (World.block_lt_of_cell? w _ hx269_5)).trans hx269_5
                        replace hx269_6 := (HB.out.cell (World.block_lt_of_cell? w _ hx269_6)).trans hx269_6
                        replace hx269_7 := (HB.out.cell (World.block_lt_of_cell? w _ hx269_7)).trans hx269_7
                        replace p269 := eq_true p269
                        replace q269 := eq_true q269
                        go_wp2_with (first | ((with_reducible refine gate_dst (N := 9) rfl ?_); refine box_event ?hg (N := 9) ?hd (cs := #[.string (⟨#[]⟩ : ByteArray), .int .u64 0, .int .u32 0, .int .u8 0, .int .u8 0, .int .u32 0, .int .u64 0, .string (⟨#[]⟩ : ByteArray)]) (t := 41) ?hr ?_; (case hd => rfl); (case hg => rfl); (case hr => first | (go_simp; done) | (go_simp; rfl)); intro gb270 hg w12 hbox hb; have n0_ := Aside0.mk (Kd.R_below (Kd.R_elderB (by (with_reducible repeat (first | apply Kd.R_alloc | apply Kd.R_drewN | apply Kd.R_drew)); exact HO_5.out) gb270 (Nat.le_of_eq hg.symm)) hb); have n1_ := Aside0.mk (blk_below (g := gb268) (o := .cells #[.string x269000_2, .int .u64 x269001_2, .int .u32 x269002_2, .int .u8 x269003_2, .int .u8 x269004_2, .int .u32 x269005_2, .int .u64 x269006_2, .string x269007_2] 41 (0, 0)) (by (with_reducible repeat (first | refine blk_drewN ?_ _ | refine blk_drew ?_ | refine blk_alloc ?_ _)); exact BK268.out) hb); have n2_ := Aside0.mk (below_step (by repeat (first | (with_reducible first | exact HB.out | apply below_alloc | apply pw_below_drewN | apply below_drew1 | refine below_set ?_ GE268.out) | exact HB.out)) hb); have n3_ := Aside0.mk (hbox); have n4_ := Aside0.mk ((by rw [hg]; exact (below_size (by repeat (first | (with_reducible first | exact HB.out | apply below_alloc | apply pw_below_drewN | apply below_drew1 | refine below_set ?_ GE268.out) | exact HB.out))) : w.heap.size ≤ gb270)); have n5_ := Aside0.mk ((by rw [hg]; exact (below_size (by repeat (first | (with_reducible first | exact HB.out | apply below_alloc | apply pw_below_drewN | apply below_drew1 | refine below_set ?_ GE268.out) | exact HB.out))) : w.heap.size ≤ gb270)); have n6_ := Aside0.mk ((by rw [hg]; exact Nat.ne_of_lt (blk_lt (g := gb268) (o := .cells #[.string x269000_2, .int .u64 x269001_2, .int .u32 x269002_2, .int .u8 x269003_2, .int .u8 x269004_2, .int .u32 x269005_2, .int .u64 x269006_2, .string x269007_2] 41 (0, 0)) (by (with_reducible repeat (first | refine blk_drewN ?_ _ | refine blk_drew ?_ | refine blk_alloc ?_ _)); exact BK268.out)) : gb268 ≠ gb270)); have n7_ := Aside0.mk ((by rw [hg]; exact Nat.ne_of_gt (blk_lt (g := gb268) (o := .cells #[.string x269000_2, .int .u64 x269001_2, .int .u32 x269002_2, .int .u8 x269003_2, .int .u8 x269004_2, .int .u32 x269005_2, .int .u64 x269006_2, .string x269007_2] 41 (0, 0)) (by (with_reducible repeat (first | refine blk_drewN ?_ _ | refine blk_drew ?_ | refine blk_alloc ?_ _)); exact BK268.out)) : gb270 ≠ gb268)); clear HO_5; clear BK268; clear HB; have HO_5 := n0_; have BK268 := n1_; have HB := n2_; have BK270 := n3_; have GW270 := n4_; have GE270 := n5_; have NB268_270 := n6_; have NB270_268 := n7_; clear n0_ n1_ n2_ n3_ n4_ n5_ n6_ n7_; clear hb hbox hg; have hnb13 := NB270_268.out; have hnc13 := NB268_270.out; have hcz14_0 : w12.cell? ⟨gb270, 0, none⟩ = some (.string (⟨#[]⟩ : ByteArray)) := (blk_cell BK270.out 0).trans rfl; have hcz14_1 : w12.cell? ⟨gb270, 1, none⟩ = some (.int .u64 0) := (blk_cell BK270.out 1).trans rfl; have hcz14_2 : w12.cell? ⟨gb270, 2, none⟩ = some (.int .u32 0) := (blk_cell BK270.out 2).trans rfl; have hcz14_3 : w12.cell? ⟨gb270, 3, none⟩ = some (.int .u8 0) := (blk_cell BK270.out 3).trans rfl; have hcz14_4 : w12.cell? ⟨gb270, 4, none⟩ = some (.int .u8 0) := (blk_cell BK270.out 4).trans rfl; have hcz14_5 : w12.cell? ⟨gb270, 5, none⟩ = some (.int .u32 0) := (blk_cell BK270.out 5).trans rfl; have hcz14_6 : w12.cell? ⟨gb270, 6, none⟩ = some (.int .u64 0) := (blk_cell BK270.out 6).trans rfl; have hcz14_7 : w12.cell? ⟨gb270, 7, none⟩ = some (.string (⟨#[]⟩ : ByteArray)) := (blk_cell BK270.out 7).trans rfl; have hfz14_0 := blk_frozen BK270.out 0; have hfz14_1 := blk_frozen BK270.out 1; have hfz14_2 := blk_frozen BK270.out 2; have hfz14_3 := blk_frozen BK270.out 3; have hfz14_4 := blk_frozen BK270.out 4; have hfz14_5 := blk_frozen BK270.out 5; have hfz14_6 := blk_frozen BK270.out 6; have hfz14_7 := blk_frozen BK270.out 7; have hcz15_0 : w12.cell? ⟨gb268, 0, none⟩ = some (.string x269000_2) := (blk_cell BK268.out 0).trans rfl; have hcz15_1 : w12.cell? ⟨gb268, 1, none⟩ = some (.int .u64 x269001_2) := (blk_cell BK268.out 1).trans rfl; have hcz15_2 : w12.cell? ⟨gb268, 2, none⟩ = some (.int .u32 x269002_2) := (blk_cell BK268.out 2).trans rfl; have hcz15_3 : w12.cell? ⟨gb268, 3, none⟩ = some (.int .u8 x269003_2) := (blk_cell BK268.out 3).trans rfl; have hcz15_4 : w12.cell? ⟨gb268, 4, none⟩ = some (.int .u8 x269004_2) := (blk_cell BK268.out 4).trans rfl; have hcz15_5 : w12.cell? ⟨gb268, 5, none⟩ = some (.int .u32 x269005_2) := (blk_cell BK268.out 5).trans rfl; have hcz15_6 : w12.cell? ⟨gb268, 6, none⟩ = some (.int .u64 x269006_2) := (blk_cell BK268.out 6).trans rfl; have hcz15_7 : w12.cell? ⟨gb268, 7, none⟩ = some (.string x269007_2) := (blk_cell BK268.out 7).trans rfl; have hfz15_0 := blk_frozen BK268.out 0; have hfz15_1 := blk_frozen BK268.out 1; have hfz15_2 := blk_frozen BK268.out 2; have hfz15_3 := blk_frozen BK268.out 3; have hfz15_4 := blk_frozen BK268.out 4; have hfz15_5 := blk_frozen BK268.out 5; have hfz15_6 := blk_frozen BK268.out 6; have hfz15_7 := blk_frozen BK268.out 7))
                        go_roundg k2
                        case measure => have := HK1.out; have := HK2.out; omega
                        case rel => exact ⟨(wrap64 (x23_2 + 1)), ((rd_T41 l1 x23_2).f0), ((rd_T41 l1 x23_2).f1.f0), ((rd_T41 l1 x23_2).f1.f1), ((rd_T41 l1 x23_2).f1.f2), ((rd_T41 l1 x23_2).f2), ((rd_T41 l1 x23_2).f3), ((rd_T41 l1 x23_2).f4), ((rd_T41 l1 x23_2).f5), (by first | rfl | (simp; done) | (simp [*]; done)), H', ⟨by have := HK1.out; have := HK2.out; omega⟩, ⟨by (with_reducible repeat (first | apply Kd.R_alloc | apply Kd.R_drewN | apply Kd.R_drew)); exact Kd.R_mono (Kd.R_far (p := ⟨gb268, 7, none⟩) (Kd.R_far (p := ⟨gb268, 6, none⟩) (Kd.R_far (p := ⟨gb268, 5, none⟩) (Kd.R_far (p := ⟨gb268, 4, none⟩) (Kd.R_far (p := ⟨gb268, 3, none⟩) (Kd.R_far (p := ⟨gb268, 2, none⟩) (Kd.R_far (p := ⟨gb268, 1, none⟩) (Kd.R_far (p := ⟨gb268, 0, none⟩) (Kd.R_far (p := ⟨gb270, 7, none⟩) (Kd.R_far (p := ⟨gb270, 6, none⟩) (Kd.R_far (p := ⟨gb270, 5, none⟩) (Kd.R_far (p := ⟨gb270, 4, none⟩) (Kd.R_far (p := ⟨gb270, 3, none⟩) (Kd.R_far (p := ⟨gb270, 2, none⟩) (Kd.R_far (p := ⟨gb270, 1, none⟩) (Kd.R_far (p := ⟨gb270, 0, none⟩) (Kd.R_mono (Kd.R_mono HO_5.out (fun k_ hk => (⟨hk, hk.2⟩ : _ ∧ k_ ≠ gb270))) (fun k_ hk => (⟨hk, hk.1.1⟩ : _ ∧ k_ ≠ gb268))) (fun _ hk => hk.1.2) (.string ((rd_T41 l1 x23_2).f0))) (fun _ hk => hk.1.2) (.int .u64 ((rd_T41 l1 x23_2).f1.f0))) (fun _ hk => hk.1.2) (.int .u32 ((rd_T41 l1 x23_2).f1.f1))) (fun _ hk => hk.1.2) (.int .u8 ((rd_T41 l1 x23_2).f1.f2))) (fun _ hk => hk.1.2) (.int .u8 ((rd_T41 l1 x23_2).f2))) (fun _ hk => hk.1.2) (.int .u32 ((rd_T41 l1 x23_2).f3))) (fun _ hk => hk.1.2) (.int .u64 ((rd_T41 l1 x23_2).f4))) (fun _ hk => hk.1.2) (.string ((rd_T41 l1 x23_2).f5))) (fun _ hk => hk.2) (.string ((rd_T41 l1 x23_2).f0))) (fun _ hk => hk.2) (.int .u64 ((rd_T41 l1 x23_2).f1.f0))) (fun _ hk => hk.2) (.int .u32 ((rd_T41 l1 x23_2).f1.f1))) (fun _ hk => hk.2) (.int .u8 ((rd_T41 l1 x23_2).f1.f2))) (fun _ hk => hk.2) (.int .u8 ((rd_T41 l1 x23_2).f2))) (fun _ hk => hk.2) (.int .u32 ((rd_T41 l1 x23_2).f3))) (fun _ hk => hk.2) (.int .u64 ((rd_T41 l1 x23_2).f4))) (fun _ hk => hk.2) (.string ((rd_T41 l1 x23_2).f5))) (fun _ hk => hk.1.1.1)⟩, ⟨by (with_reducible repeat (first | refine blk_drewN ?_ _ | refine blk_drew ?_ | refine blk_alloc ?_ _)); refine blk_put (cs := #[.string ((rd_T41 l1 x23_2).f0), .int .u64 ((rd_T41 l1 x23_2).f1.f0), .int .u32 ((rd_T41 l1 x23_2).f1.f1), .int .u8 ((rd_T41 l1 x23_2).f1.f2), .int .u8 ((rd_T41 l1 x23_2).f2), .int .u32 ((rd_T41 l1 x23_2).f3), .int .u64 ((rd_T41 l1 x23_2).f4), .string x269007_2]) ?_ 7 _ rfl; (with_reducible repeat (first | refine blk_drewN ?_ _ | refine blk_drew ?_ | refine blk_alloc ?_ _)); refine blk_put (cs := #[.string ((rd_T41 l1 x23_2).f0), .int .u64 ((rd_T41 l1 x23_2).f1.f0), .int .u32 ((rd_T41 l1 x23_2).f1.f1), .int .u8 ((rd_T41 l1 x23_2).f1.f2), .int .u8 ((rd_T41 l1 x23_2).f2), .int .u32 ((rd_T41 l1 x23_2).f3), .int .u64 x269006_2, .string x269007_2]) ?_ 6 _ rfl; (with_reducible repeat (first | refine blk_drewN ?_ _ | refine blk_drew ?_ | refine blk_alloc ?_ _)); refine blk_put (cs := #[.string ((rd_T41 l1 x23_2).f0), .int .u64 ((rd_T41 l1 x23_2).f1.f0), .int .u32 ((rd_T41 l1 x23_2).f1.f1), .int .u8 ((rd_T41 l1 x23_2).f1.f2), .int .u8 ((rd_T41 l1 x23_2).f2), .int .u32 x269005_2, .int .u64 x269006_2, .string x269007_2]) ?_ 5 _ rfl; (with_reducible repeat (first | refine blk_drewN ?_ _ | refine blk_drew ?_ | refine blk_alloc ?_ _)); refine blk_put (cs := #[.string ((rd_T41 l1 x23_2).f0), .int .u64 ((rd_T41 l1 x23_2).f1.f0), .int .u32 ((rd_T41 l1 x23_2).f1.f1), .int .u8 ((rd_T41 l1 x23_2).f1.f2), .int .u8 x269004_2, .int .u32 x269005_2, .int .u64 x269006_2, .string x269007_2]) ?_ 4 _ rfl; (with_reducible repeat (first | refine blk_drewN ?_ _ | refine blk_drew ?_ | refine blk_alloc ?_ _)); refine blk_put (cs := #[.string ((rd_T41 l1 x23_2).f0), .int .u64 ((rd_T41 l1 x23_2).f1.f0), .int .u32 ((rd_T41 l1 x23_2).f1.f1), .int .u8 x269003_2, .int .u8 x269004_2, .int .u32 x269005_2, .int .u64 x269006_2, .string x269007_2]) ?_ 3 _ rfl; (with_reducible repeat (first | refine blk_drewN ?_ _ | refine blk_drew ?_ | refine blk_alloc ?_ _)); refine blk_put (cs := #[.string ((rd_T41 l1 x23_2).f0), .int .u64 ((rd_T41 l1 x23_2).f1.f0), .int .u32 x269002_2, .int .u8 x269003_2, .int .u8 x269004_2, .int .u32 x269005_2, .int .u64 x269006_2, .string x269007_2]) ?_ 2 _ rfl; (with_reducible repeat (first | refine blk_drewN ?_ _ | refine blk_drew ?_ | refine blk_alloc ?_ _)); refine blk_put (cs := #[.string ((rd_T41 l1 x23_2).f0), .int .u64 x269001_2, .int .u32 x269002_2, .int .u8 x269003_2, .int .u8 x269004_2, .int .u32 x269005_2, .int .u64 x269006_2, .string x269007_2]) ?_ 1 _ rfl; (with_reducible repeat (first | refine blk_drewN ?_ _ | refine blk_drew ?_ | refine blk_alloc ?_ _)); refine blk_put (cs := #[.string x269000_2, .int .u64 x269001_2, .int .u32 x269002_2, .int .u8 x269003_2, .int .u8 x269004_2, .int .u32 x269005_2, .int .u64 x269006_2, .string x269007_2]) ?_ 0 _ rfl; (with_reducible repeat (first | refine blk_drewN ?_ _ | refine blk_drew ?_ | refine blk_alloc ?_ _)); refine blk_far ?_ NB268_270.out _; (with_reducible repeat (first | refine blk_drewN ?_ _ | refine blk_drew ?_ | refine blk_alloc ?_ _)); refine blk_far ?_ NB268_270.out _; (with_reducible repeat (first | refine blk_drewN ?_ _ | refine blk_drew ?_ | refine blk_alloc ?_ _)); refine blk_far ?_ NB268_270.out _; (with_reducible repeat (first | refine blk_drewN ?_ _ | refine blk_drew ?_ | refine blk_alloc ?_ _)); refine blk_far ?_ NB268_270.out _; (with_reducible repeat (first | refine blk_drewN ?_ _ | refine blk_drew ?_ | refine blk_alloc ?_ _)); refine blk_far ?_ NB268_270.out _; (with_reducible repeat (first | refine blk_drewN ?_ _ | refine blk_drew ?_ | refine blk_alloc ?_ _)); refine blk_far ?_ NB268_270.out _; (with_reducible repeat (first | refine blk_drewN ?_ _ | refine blk_drew ?_ | refine blk_alloc ?_ _)); refine blk_far ?_ NB268_270.out _; (with_reducible repeat (first | refine blk_drewN ?_ _ | refine blk_drew ?_ | refine blk_alloc ?_ _)); refine blk_far ?_ NB268_270.out _; (with_reducible repeat (first | refine blk_drewN ?_ _ | refine blk_drew ?_ | refine blk_alloc ?_ _)); exact BK268.out⟩, ⟨by repeat (first | (with_reducible first | exact HB.out | apply below_alloc | apply pw_below_drewN | apply below_drew1 | refine below_set ?_ GE268.out | refine below_set ?_ GE270.out) | exact HB.out)⟩⟩
                      · rw [if_neg c11] at H
                        have c11b0 : (((rd_T41 l1 x23_2).f0).toList == x269000_2.toList) = false := beq_eq_false_iff_ne.mpr c11
                        have c11b1 : (((rd_T41 l1 x23_2).f0).toList != x269000_2.toList) = true := bne_iff_ne.mpr c11
                        have H' := Aside0.mk H
                        clear H
                        have p269 : 0 ≤ (x23_2 : Int) := of_decide_eq_true (by first | (with_reducible assumption) | assumption)
                        have q269 : x23_2 < (l1.length : Int) := of_decide_eq_true (by first | (with_reducible assumption) | assumption)
                        obtain ⟨ad269, e269, hx269_0, hx269_1, hx269_2, hx269_3, hx269_4, hx269_5, hx269_6, hx269_7⟩ := at_T41 HR1.out x23_2 p269 q269
                        cases e269
                        replace hx269_0 := (HB.out.cell (World.block_lt_of_cell? w _ hx269_0)).trans hx269_0
                        replace hx269_1 := (HB.out.cell (World.block_lt_of_cell? w _ hx269_1)).trans hx269_1
                        replace hx269_2 := (HB.out.cell (World.block_lt_of_cell? w _ hx269_2)).trans hx269_2
                        replace hx269_3 := (HB.out.cell (World.block_lt_of_cell? w _ hx269_3)).trans hx269_3
                        replace hx269_4 := (HB.out.cell (World.block_lt_of_cell? w _ hx269_4)).trans hx269_4
                        replace hx269_5 := (HB.out.cell (World.block_lt_of_cell? w _ hx269_5)).trans hx269_5
                        replace hx269_6 := (HB.out.cell (World.block_lt_of_cell? w _ hx269_6)).trans hx269_6
                        replace hx269_7 := (HB.out.cell (World.block_lt_of_cell? w _ hx269_7)).trans hx269_7
                        replace p269 := eq_true p269
                        replace q269 := eq_true q269
                        go_wp2_with (first | ((with_reducible refine gate_dst (N := 9) rfl ?_); refine box_event ?hg (N := 9) ?hd (cs := #[.string (⟨#[]⟩ : ByteArray), .int .u64 0, .int .u32 0, .int .u8 0, .int .u8 0, .int .u32 0, .int .u64 0, .string (⟨#[]⟩ : ByteArray)]) (t := 41) ?hr ?_; (case hd => rfl); (case hg => rfl); (case hr => first | (go_simp; done) | (go_simp; rfl)); intro gb270 hg w16 hbox hb; have n0_ := Aside0.mk (Kd.R_below (Kd.R_elderB (by (with_reducible repeat (first | apply Kd.R_alloc | apply Kd.R_drewN | apply Kd.R_drew)); exact HO_5.out) gb270 (Nat.le_of_eq hg.symm)) hb); have n1_ := Aside0.mk (blk_below (g := gb268) (o := .cells #[.string x269000_2, .int .u64 x269001_2, .int .u32 x269002_2, .int .u8 x269003_2, .int .u8 x269004_2, .int .u32 x269005_2, .int .u64 x269006_2, .string x269007_2] 41 (0, 0)) (by (with_reducible repeat (first | refine blk_drewN ?_ _ | refine blk_drew ?_ | refine blk_alloc ?_ _)); exact BK268.out) hb); have n2_ := Aside0.mk (below_step (by repeat (first | (with_reducible first | exact HB.out | apply below_alloc | apply pw_below_drewN | apply below_drew1 | refine below_set ?_ GE268.out) | exact HB.out)) hb); have n3_ := Aside0.mk (hbox); have n4_ := Aside0.mk ((by rw [hg]; exact (below_size (by repeat (first | (with_reducible first | exact HB.out | apply below_alloc | apply pw_below_drewN | apply below_drew1 | refine below_set ?_ GE268.out) | exact HB.out))) : w.heap.size ≤ gb270)); have n5_ := Aside0.mk ((by rw [hg]; exact (below_size (by repeat (first | (with_reducible first | exact HB.out | apply below_alloc | apply pw_below_drewN | apply below_drew1 | refine below_set ?_ GE268.out) | exact HB.out))) : w.heap.size ≤ gb270)); have n6_ := Aside0.mk ((by rw [hg]; exact Nat.ne_of_lt (blk_lt (g := gb268) (o := .cells #[.string x269000_2, .int .u64 x269001_2, .int .u32 x269002_2, .int .u8 x269003_2, .int .u8 x269004_2, .int .u32 x269005_2, .int .u64 x269006_2, .string x269007_2] 41 (0, 0)) (by (with_reducible repeat (first | refine blk_drewN ?_ _ | refine blk_drew ?_ | refine blk_alloc ?_ _)); exact BK268.out)) : gb268 ≠ gb270)); have n7_ := Aside0.mk ((by rw [hg]; exact Nat.ne_of_gt (blk_lt (g := gb268) (o := .cells #[.string x269000_2, .int .u64 x269001_2, .int .u32 x269002_2, .int .u8 x269003_2, .int .u8 x269004_2, .int .u32 x269005_2, .int .u64 x269006_2, .string x269007_2] 41 (0, 0)) (by (with_reducible repeat (first | refine blk_drewN ?_ _ | refine blk_drew ?_ | refine blk_alloc ?_ _)); exact BK268.out)) : gb270 ≠ gb268)); clear HO_5; clear BK268; clear HB; have HO_5 := n0_; have BK268 := n1_; have HB := n2_; have BK270 := n3_; have GW270 := n4_; have GE270 := n5_; have NB268_270 := n6_; have NB270_268 := n7_; clear n0_ n1_ n2_ n3_ n4_ n5_ n6_ n7_; clear hb hbox hg; have hnb17 := NB270_268.out; have hnc17 := NB268_270.out; have hcz18_0 : w16.cell? ⟨gb270, 0, none⟩ = some (.string (⟨#[]⟩ : ByteArray)) := (blk_cell BK270.out 0).trans rfl; have hcz18_1 : w16.cell? ⟨gb270, 1, none⟩ = some (.int .u64 0) := (blk_cell BK270.out 1).trans rfl; have hcz18_2 : w16.cell? ⟨gb270, 2, none⟩ = some (.int .u32 0) := (blk_cell BK270.out 2).trans rfl; have hcz18_3 : w16.cell? ⟨gb270, 3, none⟩ = some (.int .u8 0) := (blk_cell BK270.out 3).trans rfl; have hcz18_4 : w16.cell? ⟨gb270, 4, none⟩ = some (.int .u8 0) := (blk_cell BK270.out 4).trans rfl; have hcz18_5 : w16.cell? ⟨gb270, 5, none⟩ = some (.int .u32 0) := (blk_cell BK270.out 5).trans rfl; have hcz18_6 : w16.cell? ⟨gb270, 6, none⟩ = some (.int .u64 0) := (blk_cell BK270.out 6).trans rfl; have hcz18_7 : w16.cell? ⟨gb270, 7, none⟩ = some (.string (⟨#[]⟩ : ByteArray)) := (blk_cell BK270.out 7).trans rfl; have hfz18_0 := blk_frozen BK270.out 0; have hfz18_1 := blk_frozen BK270.out 1; have hfz18_2 := blk_frozen BK270.out 2; have hfz18_3 := blk_frozen BK270.out 3; have hfz18_4 := blk_frozen BK270.out 4; have hfz18_5 := blk_frozen BK270.out 5; have hfz18_6 := blk_frozen BK270.out 6; have hfz18_7 := blk_frozen BK270.out 7; have hcz19_0 : w16.cell? ⟨gb268, 0, none⟩ = some (.string x269000_2) := (blk_cell BK268.out 0).trans rfl; have hcz19_1 : w16.cell? ⟨gb268, 1, none⟩ = some (.int .u64 x269001_2) := (blk_cell BK268.out 1).trans rfl; have hcz19_2 : w16.cell? ⟨gb268, 2, none⟩ = some (.int .u32 x269002_2) := (blk_cell BK268.out 2).trans rfl; have hcz19_3 : w16.cell? ⟨gb268, 3, none⟩ = some (.int .u8 x269003_2) := (blk_cell BK268.out 3).trans rfl; have hcz19_4 : w16.cell? ⟨gb268, 4, none⟩ = some (.int .u8 x269004_2) := (blk_cell BK268.out 4).trans rfl; have hcz19_5 : w16.cell? ⟨gb268, 5, none⟩ = some (.int .u32 x269005_2) := (blk_cell BK268.out 5).trans rfl; have hcz19_6 : w16.cell? ⟨gb268, 6, none⟩ = some (.int .u64 x269006_2) := (blk_cell BK268.out 6).trans rfl; have hcz19_7 : w16.cell? ⟨gb268, 7, none⟩ = some (.string x269007_2) := (blk_cell BK268.out 7).trans rfl; have hfz19_0 := blk_frozen BK268.out 0; have hfz19_1 := blk_frozen BK268.out 1; have hfz19_2 := blk_frozen BK268.out 2; have hfz19_3 := blk_frozen BK268.out 3; have hfz19_4 := blk_frozen BK268.out 4; have hfz19_5 := blk_frozen BK268.out 5; have hfz19_6 := blk_frozen BK268.out 6; have hfz19_7 := blk_frozen BK268.out 7))
                        go_roundg k2
                        case measure => have := HK1.out; have := HK2.out; omega
                        case rel => exact ⟨(wrap64 (x23_2 + 1)), (x269000_2), (x269001_2), (x269002_2), (x269003_2), (x269004_2), (x269005_2), (x269006_2), (x269007_2), (by first | rfl | (simp; done) | (simp [*]; done)), H', ⟨by have := HK1.out; have := HK2.out; omega⟩, ⟨by (with_reducible repeat (first | apply Kd.R_alloc | apply Kd.R_drewN | apply Kd.R_drew)); exact Kd.R_mono (Kd.R_far (p := ⟨gb270, 7, none⟩) (Kd.R_far (p := ⟨gb270, 6, none⟩) (Kd.R_far (p := ⟨gb270, 5, none⟩) (Kd.R_far (p := ⟨gb270, 4, none⟩) (Kd.R_far (p := ⟨gb270, 3, none⟩) (Kd.R_far (p := ⟨gb270, 2, none⟩) (Kd.R_far (p := ⟨gb270, 1, none⟩) (Kd.R_far (p := ⟨gb270, 0, none⟩) (Kd.R_mono HO_5.out (fun k_ hk => (⟨hk, hk.2⟩ : _ ∧ k_ ≠ gb270))) (fun _ hk => hk.2) (.string ((rd_T41 l1 x23_2).f0))) (fun _ hk => hk.2) (.int .u64 ((rd_T41 l1 x23_2).f1.f0))) (fun _ hk => hk.2) (.int .u32 ((rd_T41 l1 x23_2).f1.f1))) (fun _ hk => hk.2) (.int .u8 ((rd_T41 l1 x23_2).f1.f2))) (fun _ hk => hk.2) (.int .u8 ((rd_T41 l1 x23_2).f2))) (fun _ hk => hk.2) (.int .u32 ((rd_T41 l1 x23_2).f3))) (fun _ hk => hk.2) (.int .u64 ((rd_T41 l1 x23_2).f4))) (fun _ hk => hk.2) (.string ((rd_T41 l1 x23_2).f5))) (fun _ hk => hk.1.1)⟩, ⟨by (with_reducible repeat (first | refine blk_drewN ?_ _ | refine blk_drew ?_ | refine blk_alloc ?_ _)); refine blk_far ?_ NB268_270.out _; (with_reducible repeat (first | refine blk_drewN ?_ _ | refine blk_drew ?_ | refine blk_alloc ?_ _)); refine blk_far ?_ NB268_270.out _; (with_reducible repeat (first | refine blk_drewN ?_ _ | refine blk_drew ?_ | refine blk_alloc ?_ _)); refine blk_far ?_ NB268_270.out _; (with_reducible repeat (first | refine blk_drewN ?_ _ | refine blk_drew ?_ | refine blk_alloc ?_ _)); refine blk_far ?_ NB268_270.out _; (with_reducible repeat (first | refine blk_drewN ?_ _ | refine blk_drew ?_ | refine blk_alloc ?_ _)); refine blk_far ?_ NB268_270.out _; (with_reducible repeat (first | refine blk_drewN ?_ _ | refine blk_drew ?_ | refine blk_alloc ?_ _)); refine blk_far ?_ NB268_270.out _; (with_reducible repeat (first | refine blk_drewN ?_ _ | refine blk_drew ?_ | refine blk_alloc ?_ _)); refine blk_far ?_ NB268_270.out _; (with_reducible repeat (first | refine blk_drewN ?_ _ | refine blk_drew ?_ | refine blk_alloc ?_ _)); refine blk_far ?_ NB268_270.out _; (with_reducible repeat (first | refine blk_drewN ?_ _ | refine blk_drew ?_ | refine blk_alloc ?_ _)); exact BK268.out⟩, ⟨by repeat (first | (with_reducible first | exact HB.out | apply below_alloc | apply pw_below_drewN | apply below_drew1 | refine below_set ?_ GE268.out | refine below_set ?_ GE270.out) | exact HB.out)⟩⟩
                    · rw [if_neg c10] at H
                      exact absurd H (by simp)
                  · rw [if_neg c9] at H
                    exact absurd H (by simp)
                · rw [if_neg c8] at H
                  have c8b0 : decide (x23_2 < (l1.length : Int)) = false := decide_eq_false c8
                  clear c8
                  by_cases c20 : x5_1.length < 2199023255552
                  · rw [if_pos c20] at H
                    have LMc20 := Aside0.mk c20
                    clear c20
                    obtain ⟨y271, hy271⟩ : ∃ y_ : List (S41), y_ = (x5_1 ++ [(⟨x269000_2, (⟨x269001_2, x269002_2, x269003_2⟩ : S39), x269004_2, x269005_2, x269006_2, x269007_2⟩ : S41)]) := ⟨_, rfl⟩
                    replace H : (tattlerlaw15_give.l0 k2 l0 l1 y271 l0 (l0.length : Int) (wrap64 (x17_1 + 1))) = some r := by first | (rw [hy271]; with_reducible exact H) | (have H2_ := (Option.bind_some _ _).symm.trans H; rw [hy271]; with_reducible exact H2_) | (have H2_ := (Option.bind_some _ _).symm.trans H; with_reducible exact H2_) | with_reducible exact H | (rw [hy271]; exact H) | exact H
                    have Ny271 := Aside0.mk hy271
                    clear hy271
                    have H' := Aside0.mk H
                    clear H
                    have hcz21_0 : wr.cell? ⟨gb268, 0, none⟩ = some (.string x269000_2) := (blk_cell BK268.out 0).trans rfl
                    have hcz21_1 : wr.cell? ⟨gb268, 1, none⟩ = some (.int .u64 x269001_2) := (blk_cell BK268.out 1).trans rfl
                    have hcz21_2 : wr.cell? ⟨gb268, 2, none⟩ = some (.int .u32 x269002_2) := (blk_cell BK268.out 2).trans rfl
                    have hcz21_3 : wr.cell? ⟨gb268, 3, none⟩ = some (.int .u8 x269003_2) := (blk_cell BK268.out 3).trans rfl
                    have hcz21_4 : wr.cell? ⟨gb268, 4, none⟩ = some (.int .u8 x269004_2) := (blk_cell BK268.out 4).trans rfl
                    have hcz21_5 : wr.cell? ⟨gb268, 5, none⟩ = some (.int .u32 x269005_2) := (blk_cell BK268.out 5).trans rfl
                    have hcz21_6 : wr.cell? ⟨gb268, 6, none⟩ = some (.int .u64 x269006_2) := (blk_cell BK268.out 6).trans rfl
                    have hcz21_7 : wr.cell? ⟨gb268, 7, none⟩ = some (.string x269007_2) := (blk_cell BK268.out 7).trans rfl
                    have hfz21_0 := blk_frozen BK268.out 0
                    have hfz21_1 := blk_frozen BK268.out 1
                    have hfz21_2 := blk_frozen BK268.out 2
                    have hfz21_3 := blk_frozen BK268.out 3
                    have hfz21_4 := blk_frozen BK268.out 4
                    have hfz21_5 := blk_frozen BK268.out 5
                    have hfz21_6 := blk_frozen BK268.out 6
                    have hfz21_7 := blk_frozen BK268.out 7
                    go_wp2_with (first | ((with_reducible refine gate_builtin (b := .append) (xs := #[.tmp 34, .tmp 36]) rfl ?_); at_builtin; refine Kd.R_append k41 (w0 := w) w.heap.size rfl (.tmp 34) (.tmp 36) 22 41 (.agg #[(.string ⟨#[]⟩), (.int .u64 0), (.int .u32 0), (.int .u8 0), (.int .u8 0), (.int .u32 0), (.int .u64 0), (.string ⟨#[]⟩)]) 64 rfl Try.underlying22 info41 rfl (by decide) (by omega) u5 x5_1 (⟨x269000_2, (⟨x269001_2, x269002_2, x269003_2⟩ : S39), x269004_2, x269005_2, x269006_2, x269007_2⟩ : S41) [.string x269000_2, .int .u64 x269001_2, .int .u32 x269002_2, .int .u8 x269003_2, .int .u8 x269004_2, .int .u32 x269005_2, .int .u64 x269006_2, .string x269007_2] (fun k_ => k_ ≠ gb268) (fun _ => False) rfl rfl ?aP (fun _ hk => hk.elim) ?aF ?aO ?aB ?aS ?aL ?_; (case aP => exact k41_mkM _ _ _ (⟨x269000_2, (⟨x269001_2, x269002_2, x269003_2⟩ : S39), x269004_2, x269005_2, x269006_2, x269007_2⟩ : S41)); (case aB => exact (by repeat (first | (with_reducible first | exact HB.out | apply below_alloc | apply pw_below_drewN | apply below_drew1 | refine below_set ?_ GE268.out) | exact HB.out))); (case aF => exact (fun k_ hk => Kd.freshB (g := gb268) (o := .cells #[.string x269000_2, .int .u64 x269001_2, .int .u32 x269002_2, .int .u8 x269003_2, .int .u8 x269004_2, .int .u32 x269005_2, .int .u64 x269006_2, .string x269007_2] 41 (0, 0)) (by (with_reducible repeat (first | refine blk_drewN ?_ _ | refine blk_drew ?_ | refine blk_alloc ?_ _)); exact BK268.out) k_ hk)); (case aO => exact (by (with_reducible repeat (first | apply Kd.R_alloc | apply Kd.R_drewN | apply Kd.R_drew)); exact HO_5.out)); (case aS => exact (below_size (by repeat (first | (with_reducible first | exact HB.out | apply below_alloc | apply pw_below_drewN | apply below_drew1 | refine below_set ?_ GE268.out) | exact HB.out)))); (case aL => have := LMc20.out; omega); intro v272 w22 ho hb hg hat; rw [← Ny271.out] at ho; have n0_ := Aside0.mk (blk_grown (g := gb268) (o := .cells #[.string x269000_2, .int .u64 x269001_2, .int .u32 x269002_2, .int .u8 x269003_2, .int .u8 x269004_2, .int .u32 x269005_2, .int .u64 x269006_2, .string x269007_2] 41 (0, 0)) (by (with_reducible repeat (first | refine blk_drewN ?_ _ | refine blk_drew ?_ | refine blk_alloc ?_ _)); exact BK268.out) hg (Kd.R_away HO_5.out (fun _ hk => hk))); have n1_ := Aside0.mk (hb); have n2_ := Aside0.mk (ho); clear BK268; clear HB; clear HO_5; have BK268 := n0_; have HB := n1_; have HO273 := n2_; clear n0_ n1_ n2_; clear ho hb hg hat))
                    go_roundg k2
                    case measure => have := HK1.out; have := HK2.out; omega
                    case rel => exact ⟨(y271), (wrap64 (x17_1 + 1)), (by first | rfl | (simp; done) | (simp [*]; done)), H', ⟨by have := HK1.out; have := HK2.out; omega⟩, ⟨by (with_reducible repeat (first | apply Kd.R_alloc | apply Kd.R_drewN | apply Kd.R_drew)); exact Kd.R_mono HO273.out (fun _ hk => trivial)⟩, ⟨by repeat (first | (with_reducible first | exact HB.out | apply below_alloc | apply pw_below_drewN | apply below_drew1 | refine below_set ?_ GE268.out) | exact HB.out)⟩⟩
                  · rw [if_neg c20] at H
                    exact absurd H (by simp)
          · rw [if_neg c5] at H
            exact absurd H (by simp)
        · rw [if_neg c4] at H
          exact absurd H (by simp)
      · rw [if_neg c3] at H
        have c3b0 : decide (x17_1 < (l0.length : Int)) = false := decide_eq_false c3
        clear c3
        have H' := Aside0.mk H
        clear H
        go_wp2
        go_loopg [5, 41] k1 (fun kq v5 v41 w' => ∃ (x5_2 : List (S41)) (x41_2 : Int), v41 = .int .i64 x41_2 ∧ Aside0 (tattlerlaw15_give.l2 kq l0 x5_2 l1 (l1.length : Int) x41_2 = some r) ∧ Aside0 (kq ≤ k1) ∧ Aside0 (Kd.R k41 41 w' w.heap.size (fun _ => True) v5 x5_2) ∧ Aside0 (Below w.heap.size w w'))
        case atStart => exact ⟨(x5_1), (0), (by first | rfl | (simp; done) | (simp [*]; done)), H', ⟨Nat.le_refl _⟩, ⟨by (with_reducible repeat (first | apply Kd.R_alloc | apply Kd.R_drewN | apply Kd.R_drew)); exact HO_5.out⟩, ⟨by repeat (first | (with_reducible first | exact HB.out | apply below_alloc | apply pw_below_drewN | apply below_drew1) | exact HB.out)⟩⟩
        case round =>
          clear H'
          try clear c1
          try clear c2
          try clear p2
          try clear q2
          try clear hx2
          try clear c3
          try clear c3b0
          try clear c4
          try clear c4b0
          try clear c5
          try clear c5b0
          try clear p6
          try clear c8
          try clear c8b0
          try clear c9
          try clear c9b0
          try clear c10
          try clear c10b0
          try clear c11
          try clear c11b0
          try clear c11b1
          try clear c13
          try clear c17
          try clear c19
          try clear c20
          try clear hcz14_0
          try clear hcz14_1
          try clear hcz14_2
          try clear hcz14_3
          try clear hcz14_4
          try clear hcz14_5
          try clear hcz14_6
          try clear hcz14_7
          try clear hcz15_0
          try clear hcz15_1
          try clear hcz15_2
          try clear hcz15_3
          try clear hcz15_4
          try clear hcz15_5
          try clear hcz15_6
          try clear hcz15_7
          try clear hcz18_0
          try clear hcz18_1
          try clear hcz18_2
          try clear hcz18_3
          try clear hcz18_4
          try clear hcz18_5
          try clear hcz18_6
          try clear hcz18_7
          try clear hcz19_0
          try clear hcz19_1
          try clear hcz19_2
          try clear hcz19_3
          try clear hcz19_4
          try clear hcz19_5
          try clear hcz19_6
          try clear hcz19_7
          try clear hcz21_0
          try clear hcz21_1
          try clear hcz21_2
          try clear hcz21_3
          try clear hcz21_4
          try clear hcz21_5
          try clear hcz21_6
          try clear hcz21_7
          try clear hcz7_0
          try clear hcz7_1
          try clear hcz7_2
          try clear hcz7_3
          try clear hcz7_4
          try clear hcz7_5
          try clear hcz7_6
          try clear hcz7_7
          try clear hfz14_0
          try clear hfz14_1
          try clear hfz14_2
          try clear hfz14_3
          try clear hfz14_4
          try clear hfz14_5
          try clear hfz14_6
          try clear hfz14_7
          try clear hfz15_0
          try clear hfz15_1
          try clear hfz15_2
          try clear hfz15_3
          try clear hfz15_4
          try clear hfz15_5
          try clear hfz15_6
          try clear hfz15_7
          try clear hfz18_0
          try clear hfz18_1
          try clear hfz18_2
          try clear hfz18_3
          try clear hfz18_4
          try clear hfz18_5
          try clear hfz18_6
          try clear hfz18_7
          try clear hfz19_0
          try clear hfz19_1
          try clear hfz19_2
          try clear hfz19_3
          try clear hfz19_4
          try clear hfz19_5
          try clear hfz19_6
          try clear hfz19_7
          try clear hfz21_0
          try clear hfz21_1
          try clear hfz21_2
          try clear hfz21_3
          try clear hfz21_4
          try clear hfz21_5
          try clear hfz21_6
          try clear hfz21_7
          try clear hfz7_0
          try clear hfz7_1
          try clear hfz7_2
          try clear hfz7_3
          try clear hfz7_4
          try clear hfz7_5
          try clear hfz7_6
          try clear hfz7_7
          try clear hx267_0
          try clear hx267_1
          try clear hx267_2
          try clear hx267_3
          try clear hx267_4
          try clear hx267_5
          try clear hx267_6
          try clear hx267_7
          try clear hx269_0
          try clear hx269_1
          try clear hx269_2
          try clear hx269_3
          try clear hx269_4
          try clear hx269_5
          try clear hx269_6
          try clear hx269_7
          try clear p2
          try clear p267
          try clear p269
          try clear q2
          try clear q267
          try clear q269
          obtain ⟨x5_2, x41_2, rfl, HA, HK2, HO_5, HB⟩ := hrel
          cases gk with
          | zero => exact absurd HA.out (by simp [tattlerlaw15_give.l2])
          | succ k2 =>
            have H := HA.out
            clear HA
            simp only [tattlerlaw15_give.l2] at H
            by_cases c23 : x41_2 < (l1.length : Int)
            · rw [if_pos c23] at H
              have c23b0 : decide (x41_2 < (l1.length : Int)) = true := decide_eq_true c23
              clear c23
              by_cases c24 : 0 ≤ x41_2
              · rw [if_pos c24] at H
                have c24b0 : decide (0 ≤ x41_2) = true := decide_eq_true c24
                clear c24
                by_cases c25 : x41_2 < (l1.length : Int)
                · rw [if_pos c25] at H
                  have c25b0 : decide (x41_2 < (l1.length : Int)) = true := decide_eq_true c25
                  clear c25
                  have H' := Aside0.mk H
                  clear H
                  have p274 : 0 ≤ (x41_2 : Int) := of_decide_eq_true (by first | (with_reducible assumption) | assumption)
                  have q274 : x41_2 < (l1.length : Int) := of_decide_eq_true (by first | (with_reducible assumption) | assumption)
                  obtain ⟨ad274, e274, hx274_0, hx274_1, hx274_2, hx274_3, hx274_4, hx274_5, hx274_6, hx274_7⟩ := at_T41 HR1.out x41_2 p274 q274
                  cases e274
                  replace hx274_0 := (HB.out.cell (World.block_lt_of_cell? w _ hx274_0)).trans hx274_0
                  replace hx274_1 := (HB.out.cell (World.block_lt_of_cell? w _ hx274_1)).trans hx274_1
                  replace hx274_2 := (HB.out.cell (World.block_lt_of_cell? w _ hx274_2)).trans hx274_2
                  replace hx274_3 := (HB.out.cell (World.block_lt_of_cell? w _ hx274_3)).trans hx274_3
                  replace hx274_4 := (HB.out.cell (World.block_lt_of_cell? w _ hx274_4)).trans hx274_4
                  replace hx274_5 := (HB.out.cell (World.block_lt_of_cell? w _ hx274_5)).trans hx274_5
                  replace hx274_6 := (HB.out.cell (World.block_lt_of_cell? w _ hx274_6)).trans hx274_6
                  replace hx274_7 := (HB.out.cell (World.block_lt_of_cell? w _ hx274_7)).trans hx274_7
                  replace p274 := eq_true p274
                  replace q274 := eq_true q274
                  go_wp2_with (first | ((with_reducible refine gate_dst (N := 11) rfl ?_); refine box_event ?hg (N := 11) ?hd (cs := #[.string (⟨#[]⟩ : ByteArray), .int .u64 0, .int .u32 0, .int .u8 0, .int .u8 0, .int .u32 0, .int .u64 0, .string (⟨#[]⟩ : ByteArray)]) (t := 41) ?hr ?_; (case hd => rfl); (case hg => rfl); (case hr => first | (go_simp; done) | (go_simp; rfl)); intro gb275 hg w26 hbox hb; have n0_ := Aside0.mk (Kd.R_below (Kd.R_elderB (by (with_reducible repeat (first | apply Kd.R_alloc | apply Kd.R_drewN | apply Kd.R_drew)); exact HO_5.out) gb275 (Nat.le_of_eq hg.symm)) hb); have n1_ := Aside0.mk (below_step (by repeat (first | (with_reducible first | exact HB.out | apply below_alloc | apply pw_below_drewN | apply below_drew1) | exact HB.out)) hb); have n2_ := Aside0.mk (hbox); have n3_ := Aside0.mk ((by rw [hg]; exact (below_size (by repeat (first | (with_reducible first | exact HB.out | apply below_alloc | apply pw_below_drewN | apply below_drew1) | exact HB.out))) : w.heap.size ≤ gb275)); have n4_ := Aside0.mk ((by rw [hg]; exact (below_size (by repeat (first | (with_reducible first | exact HB.out | apply below_alloc | apply pw_below_drewN | apply below_drew1) | exact HB.out))) : w.heap.size ≤ gb275)); clear HO_5; clear HB; have HO_5 := n0_; have HB := n1_; have BK275 := n2_; have GW275 := n3_; have GE275 := n4_; clear n0_ n1_ n2_ n3_ n4_; clear hb hbox hg; have hcz27_0 : w26.cell? ⟨gb275, 0, none⟩ = some (.string (⟨#[]⟩ : ByteArray)) := (blk_cell BK275.out 0).trans rfl; have hcz27_1 : w26.cell? ⟨gb275, 1, none⟩ = some (.int .u64 0) := (blk_cell BK275.out 1).trans rfl; have hcz27_2 : w26.cell? ⟨gb275, 2, none⟩ = some (.int .u32 0) := (blk_cell BK275.out 2).trans rfl; have hcz27_3 : w26.cell? ⟨gb275, 3, none⟩ = some (.int .u8 0) := (blk_cell BK275.out 3).trans rfl; have hcz27_4 : w26.cell? ⟨gb275, 4, none⟩ = some (.int .u8 0) := (blk_cell BK275.out 4).trans rfl; have hcz27_5 : w26.cell? ⟨gb275, 5, none⟩ = some (.int .u32 0) := (blk_cell BK275.out 5).trans rfl; have hcz27_6 : w26.cell? ⟨gb275, 6, none⟩ = some (.int .u64 0) := (blk_cell BK275.out 6).trans rfl; have hcz27_7 : w26.cell? ⟨gb275, 7, none⟩ = some (.string (⟨#[]⟩ : ByteArray)) := (blk_cell BK275.out 7).trans rfl; have hfz27_0 := blk_frozen BK275.out 0; have hfz27_1 := blk_frozen BK275.out 1; have hfz27_2 := blk_frozen BK275.out 2; have hfz27_3 := blk_frozen BK275.out 3; have hfz27_4 := blk_frozen BK275.out 4; have hfz27_5 := blk_frozen BK275.out 5; have hfz27_6 := blk_frozen BK275.out 6; have hfz27_7 := blk_frozen BK275.out 7))
                  go_loopg [12, 47] k2 (fun kq v12 v47 w' => ∃ (x12_3 : Bool) (x47_3 : Int), v12 = .bool x12_3 ∧ v47 = .int .i64 x47_3 ∧ Aside0 (tattlerlaw15_give.l3 kq l0 x5_2 x12_3 l1 (l1.length : Int) x41_2 l0 (l0.length : Int) x47_3 ((rd_T41 l1 x41_2).f0) ((rd_T41 l1 x41_2).f1.f0) ((rd_T41 l1 x41_2).f1.f1) ((rd_T41 l1 x41_2).f1.f2) ((rd_T41 l1 x41_2).f2) ((rd_T41 l1 x41_2).f3) ((rd_T41 l1 x41_2).f4) ((rd_T41 l1 x41_2).f5) = some r) ∧ Aside0 (kq ≤ k2) ∧ Aside0 (Kd.R k41 41 w' w.heap.size (fun k_ => k_ ≠ gb275) u5 x5_2) ∧ Aside0 (w'.heap[gb275]? = some (.cells #[.string ((rd_T41 l1 x41_2).f0), .int .u64 ((rd_T41 l1 x41_2).f1.f0), .int .u32 ((rd_T41 l1 x41_2).f1.f1), .int .u8 ((rd_T41 l1 x41_2).f1.f2), .int .u8 ((rd_T41 l1 x41_2).f2), .int .u32 ((rd_T41 l1 x41_2).f3), .int .u64 ((rd_T41 l1 x41_2).f4), .string ((rd_T41 l1 x41_2).f5)] 41 (0, 0))) ∧ Aside0 (Below w.heap.size w w'))
                  case atStart => exact ⟨(false), (0), (by first | rfl | (simp; done) | (simp [*]; done)), (by first | rfl | (simp; done) | (simp [*]; done)), H', ⟨Nat.le_refl _⟩, ⟨by (with_reducible repeat (first | apply Kd.R_alloc | apply Kd.R_drewN | apply Kd.R_drew)); exact Kd.R_mono (Kd.R_far (p := ⟨gb275, 7, none⟩) (Kd.R_far (p := ⟨gb275, 6, none⟩) (Kd.R_far (p := ⟨gb275, 5, none⟩) (Kd.R_far (p := ⟨gb275, 4, none⟩) (Kd.R_far (p := ⟨gb275, 3, none⟩) (Kd.R_far (p := ⟨gb275, 2, none⟩) (Kd.R_far (p := ⟨gb275, 1, none⟩) (Kd.R_far (p := ⟨gb275, 0, none⟩) (Kd.R_mono HO_5.out (fun k_ hk => (⟨hk, hk.2⟩ : _ ∧ k_ ≠ gb275))) (fun _ hk => hk.2) (.string ((rd_T41 l1 x41_2).f0))) (fun _ hk => hk.2) (.int .u64 ((rd_T41 l1 x41_2).f1.f0))) (fun _ hk => hk.2) (.int .u32 ((rd_T41 l1 x41_2).f1.f1))) (fun _ hk => hk.2) (.int .u8 ((rd_T41 l1 x41_2).f1.f2))) (fun _ hk => hk.2) (.int .u8 ((rd_T41 l1 x41_2).f2))) (fun _ hk => hk.2) (.int .u32 ((rd_T41 l1 x41_2).f3))) (fun _ hk => hk.2) (.int .u64 ((rd_T41 l1 x41_2).f4))) (fun _ hk => hk.2) (.string ((rd_T41 l1 x41_2).f5))) (fun _ hk => hk.1.2)⟩, ⟨by (with_reducible repeat (first | refine blk_drewN ?_ _ | refine blk_drew ?_ | refine blk_alloc ?_ _)); refine blk_put (cs := #[.string ((rd_T41 l1 x41_2).f0), .int .u64 ((rd_T41 l1 x41_2).f1.f0), .int .u32 ((rd_T41 l1 x41_2).f1.f1), .int .u8 ((rd_T41 l1 x41_2).f1.f2), .int .u8 ((rd_T41 l1 x41_2).f2), .int .u32 ((rd_T41 l1 x41_2).f3), .int .u64 ((rd_T41 l1 x41_2).f4), .string (⟨#[]⟩ : ByteArray)]) ?_ 7 _ rfl; (with_reducible repeat (first | refine blk_drewN ?_ _ | refine blk_drew ?_ | refine blk_alloc ?_ _)); refine blk_put (cs := #[.string ((rd_T41 l1 x41_2).f0), .int .u64 ((rd_T41 l1 x41_2).f1.f0), .int .u32 ((rd_T41 l1 x41_2).f1.f1), .int .u8 ((rd_T41 l1 x41_2).f1.f2), .int .u8 ((rd_T41 l1 x41_2).f2), .int .u32 ((rd_T41 l1 x41_2).f3), .int .u64 0, .string (⟨#[]⟩ : ByteArray)]) ?_ 6 _ rfl; (with_reducible repeat (first | refine blk_drewN ?_ _ | refine blk_drew ?_ | refine blk_alloc ?_ _)); refine blk_put (cs := #[.string ((rd_T41 l1 x41_2).f0), .int .u64 ((rd_T41 l1 x41_2).f1.f0), .int .u32 ((rd_T41 l1 x41_2).f1.f1), .int .u8 ((rd_T41 l1 x41_2).f1.f2), .int .u8 ((rd_T41 l1 x41_2).f2), .int .u32 0, .int .u64 0, .string (⟨#[]⟩ : ByteArray)]) ?_ 5 _ rfl; (with_reducible repeat (first | refine blk_drewN ?_ _ | refine blk_drew ?_ | refine blk_alloc ?_ _)); refine blk_put (cs := #[.string ((rd_T41 l1 x41_2).f0), .int .u64 ((rd_T41 l1 x41_2).f1.f0), .int .u32 ((rd_T41 l1 x41_2).f1.f1), .int .u8 ((rd_T41 l1 x41_2).f1.f2), .int .u8 0, .int .u32 0, .int .u64 0, .string (⟨#[]⟩ : ByteArray)]) ?_ 4 _ rfl; (with_reducible repeat (first | refine blk_drewN ?_ _ | refine blk_drew ?_ | refine blk_alloc ?_ _)); refine blk_put (cs := #[.string ((rd_T41 l1 x41_2).f0), .int .u64 ((rd_T41 l1 x41_2).f1.f0), .int .u32 ((rd_T41 l1 x41_2).f1.f1), .int .u8 0, .int .u8 0, .int .u32 0, .int .u64 0, .string (⟨#[]⟩ : ByteArray)]) ?_ 3 _ rfl; (with_reducible repeat (first | refine blk_drewN ?_ _ | refine blk_drew ?_ | refine blk_alloc ?_ _)); refine blk_put (cs := #[.string ((rd_T41 l1 x41_2).f0), .int .u64 ((rd_T41 l1 x41_2).f1.f0), .int .u32 0, .int .u8 0, .int .u8 0, .int .u32 0, .int .u64 0, .string (⟨#[]⟩ : ByteArray)]) ?_ 2 _ rfl; (with_reducible repeat (first | refine blk_drewN ?_ _ | refine blk_drew ?_ | refine blk_alloc ?_ _)); refine blk_put (cs := #[.string ((rd_T41 l1 x41_2).f0), .int .u64 0, .int .u32 0, .int .u8 0, .int .u8 0, .int .u32 0, .int .u64 0, .string (⟨#[]⟩ : ByteArray)]) ?_ 1 _ rfl; (with_reducible repeat (first | refine blk_drewN ?_ _ | refine blk_drew ?_ | refine blk_alloc ?_ _)); refine blk_put (cs := #[.string (⟨#[]⟩ : ByteArray), .int .u64 0, .int .u32 0, .int .u8 0, .int .u8 0, .int .u32 0, .int .u64 0, .string (⟨#[]⟩ : ByteArray)]) ?_ 0 _ rfl; (with_reducible repeat (first | refine blk_drewN ?_ _ | refine blk_drew ?_ | refine blk_alloc ?_ _)); exact BK275.out⟩, ⟨by repeat (first | (with_reducible first | exact HB.out | apply below_alloc | apply pw_below_drewN | apply below_drew1 | refine below_set ?_ GE275.out) | exact HB.out)⟩⟩
                  case round =>
                    clear H'
                    try clear c1
                    try clear c2
                    try clear p2
                    try clear q2
                    try clear hx2
                    try clear c3
                    try clear c3b0
                    try clear c4
                    try clear c4b0
                    try clear c5
                    try clear c5b0
                    try clear p6
                    try clear c8
                    try clear c8b0
                    try clear c9
                    try clear c9b0
                    try clear c10
                    try clear c10b0
                    try clear c11
                    try clear c11b0
                    try clear c11b1
                    try clear c13
                    try clear c17
                    try clear c19
                    try clear c20
                    try clear c23
                    try clear c23b0
                    try clear c24
                    try clear c24b0
                    try clear c25
                    try clear c25b0
                    try clear p26
                    try clear q26
                    try clear hx26
                    try clear p27
                    try clear q27
                    try clear hx27
                    try clear hcz14_0
                    try clear hcz14_1
                    try clear hcz14_2
                    try clear hcz14_3
                    try clear hcz14_4
                    try clear hcz14_5
                    try clear hcz14_6
                    try clear hcz14_7
                    try clear hcz15_0
                    try clear hcz15_1
                    try clear hcz15_2
                    try clear hcz15_3
                    try clear hcz15_4
                    try clear hcz15_5
                    try clear hcz15_6
                    try clear hcz15_7
                    try clear hcz18_0
                    try clear hcz18_1
                    try clear hcz18_2
                    try clear hcz18_3
                    try clear hcz18_4
                    try clear hcz18_5
                    try clear hcz18_6
                    try clear hcz18_7
                    try clear hcz19_0
                    try clear hcz19_1
                    try clear hcz19_2
                    try clear hcz19_3
                    try clear hcz19_4
                    try clear hcz19_5
                    try clear hcz19_6
                    try clear hcz19_7
                    try clear hcz21_0
                    try clear hcz21_1
                    try clear hcz21_2
                    try clear hcz21_3
                    try clear hcz21_4
                    try clear hcz21_5
                    try clear hcz21_6
                    try clear hcz21_7
                    try clear hcz27_0
                    try clear hcz27_1
                    try clear hcz27_2
                    try clear hcz27_3
                    try clear hcz27_4
                    try clear hcz27_5
                    try clear hcz27_6
                    try clear hcz27_7
                    try clear hcz7_0
                    try clear hcz7_1
                    try clear hcz7_2
                    try clear hcz7_3
                    try clear hcz7_4
                    try clear hcz7_5
                    try clear hcz7_6
                    try clear hcz7_7
                    try clear hfz14_0
                    try clear hfz14_1
                    try clear hfz14_2
                    try clear hfz14_3
                    try clear hfz14_4
                    try clear hfz14_5
                    try clear hfz14_6
                    try clear hfz14_7
                    try clear hfz15_0
                    try clear hfz15_1
                    try clear hfz15_2
                    try clear hfz15_3
                    try clear hfz15_4
                    try clear hfz15_5
                    try clear hfz15_6
                    try clear hfz15_7
                    try clear hfz18_0
                    try clear hfz18_1
                    try clear hfz18_2
                    try clear hfz18_3
                    try clear hfz18_4
                    try clear hfz18_5
                    try clear hfz18_6
                    try clear hfz18_7
                    try clear hfz19_0
                    try clear hfz19_1
                    try clear hfz19_2
                    try clear hfz19_3
                    try clear hfz19_4
                    try clear hfz19_5
                    try clear hfz19_6
                    try clear hfz19_7
                    try clear hfz21_0
                    try clear hfz21_1
                    try clear hfz21_2
                    try clear hfz21_3
                    try clear hfz21_4
                    try clear hfz21_5
                    try clear hfz21_6
                    try clear hfz21_7
                    try clear hfz27_0
                    try clear hfz27_1
                    try clear hfz27_2
                    try clear hfz27_3
                    try clear hfz27_4
                    try clear hfz27_5
                    try clear hfz27_6
                    try clear hfz27_7
                    try clear hfz7_0
                    try clear hfz7_1
                    try clear hfz7_2
                    try clear hfz7_3
                    try clear hfz7_4
                    try clear hfz7_5
                    try clear hfz7_6
                    try clear hfz7_7
                    try clear hx267_0
                    try clear hx267_1
                    try clear hx267_2
                    try clear hx267_3
                    try clear hx267_4
                    try clear hx267_5
                    try clear hx267_6
                    try clear hx267_7
                    try clear hx269_0
                    try clear hx269_1
                    try clear hx269_2
                    try clear hx269_3
                    try clear hx269_4
                    try clear hx269_5
                    try clear hx269_6
                    try clear hx269_7
                    try clear hx274_0
                    try clear hx274_1
                    try clear hx274_2
                    try clear hx274_3
                    try clear hx274_4
                    try clear hx274_5
                    try clear hx274_6
                    try clear hx274_7
                    try clear p2
                    try clear p267
                    try clear p269
                    try clear p274
                    try clear p6
                    try clear q2
                    try clear q267
                    try clear q269
                    try clear q274
                    obtain ⟨x12_3, x47_3, rfl, rfl, HA, HK3, HO_5, BK275, HB⟩ := hrel
                    cases gk with
                    | zero => exact absurd HA.out (by simp [tattlerlaw15_give.l3])
                    | succ k3 =>
                      have H := HA.out
                      clear HA
                      simp only [tattlerlaw15_give.l3] at H
                      by_cases c28 : x47_3 < (l0.length : Int)
                      · rw [if_pos c28] at H
                        have c28b0 : decide (x47_3 < (l0.length : Int)) = true := decide_eq_true c28
                        clear c28
                        by_cases c29 : 0 ≤ x47_3
                        · rw [if_pos c29] at H
                          have c29b0 : decide (0 ≤ x47_3) = true := decide_eq_true c29
                          clear c29
                          by_cases c30 : x47_3 < (l0.length : Int)
                          · rw [if_pos c30] at H
                            have c30b0 : decide (x47_3 < (l0.length : Int)) = true := decide_eq_true c30
                            clear c30
                            by_cases c31 : x12_3 = true
                            · subst c31
                              have H1 : (tattlerlaw15_give.l3 k3 l0 x5_2 true l1 (l1.length : Int) x41_2 l0 (l0.length : Int) (wrap64 (x47_3 + 1)) ((rd_T41 l1 x41_2).f0) ((rd_T41 l1 x41_2).f1.f0) ((rd_T41 l1 x41_2).f1.f1) ((rd_T41 l1 x41_2).f1.f2) ((rd_T41 l1 x41_2).f2) ((rd_T41 l1 x41_2).f3) ((rd_T41 l1 x41_2).f4) ((rd_T41 l1 x41_2).f5)) = some r := by rw [if_pos rfl] at H; exact H
                              clear H
                              have H := H1
                              clear H1
                              have H' := Aside0.mk H
                              clear H
                              have p276 : 0 ≤ (x47_3 : Int) := of_decide_eq_true (by first | (with_reducible assumption) | assumption)
                              have q276 : x47_3 < (l0.length : Int) := of_decide_eq_true (by first | (with_reducible assumption) | assumption)
                              obtain ⟨ad276, e276, hx276_0, hx276_1, hx276_2, hx276_3, hx276_4, hx276_5, hx276_6, hx276_7⟩ := at_T41 HR0.out x47_3 p276 q276
                              cases e276
                              replace hx276_0 := (HB.out.cell (World.block_lt_of_cell? w _ hx276_0)).trans hx276_0
                              replace hx276_1 := (HB.out.cell (World.block_lt_of_cell? w _ hx276_1)).trans hx276_1
                              replace hx276_2 := (HB.out.cell (World.block_lt_of_cell? w _ hx276_2)).trans hx276_2
                              replace hx276_3 := (HB.out.cell (World.block_lt_of_cell? w _ hx276_3)).trans hx276_3
                              replace hx276_4 := (HB.out.cell (World.block_lt_of_cell? w _ hx276_4)).trans hx276_4
                              replace hx276_5 := (HB.out.cell (World.block_lt_of_cell? w _ hx276_5)).trans hx276_5
                              replace hx276_6 := (HB.out.cell (World.block_lt_of_cell? w _ hx276_6)).trans hx276_6
                              replace hx276_7 := (HB.out.cell (World.block_lt_of_cell? w _ hx276_7)).trans hx276_7
                              replace p276 := eq_true p276
                              replace q276 := eq_true q276
                              go_wp2_with (first | ((with_reducible refine gate_dst (N := 14) rfl ?_); refine box_event ?hg (N := 14) ?hd (cs := #[.string (⟨#[]⟩ : ByteArray), .int .u64 0, .int .u32 0, .int .u8 0, .int .u8 0, .int .u32 0, .int .u64 0, .string (⟨#[]⟩ : ByteArray)]) (t := 41) ?hr ?_; (case hd => rfl); (case hg => rfl); (case hr => first | (go_simp; done) | (go_simp; rfl)); intro gb277 hg w32 hbox hb; have n0_ := Aside0.mk (Kd.R_below (Kd.R_elderB (by (with_reducible repeat (first | apply Kd.R_alloc | apply Kd.R_drewN | apply Kd.R_drew)); exact HO_5.out) gb277 (Nat.le_of_eq hg.symm)) hb); have n1_ := Aside0.mk (blk_below (g := gb275) (o := .cells #[.string ((rd_T41 l1 x41_2).f0), .int .u64 ((rd_T41 l1 x41_2).f1.f0), .int .u32 ((rd_T41 l1 x41_2).f1.f1), .int .u8 ((rd_T41 l1 x41_2).f1.f2), .int .u8 ((rd_T41 l1 x41_2).f2), .int .u32 ((rd_T41 l1 x41_2).f3), .int .u64 ((rd_T41 l1 x41_2).f4), .string ((rd_T41 l1 x41_2).f5)] 41 (0, 0)) (by (with_reducible repeat (first | refine blk_drewN ?_ _ | refine blk_drew ?_ | refine blk_alloc ?_ _)); exact BK275.out) hb); have n2_ := Aside0.mk (below_step (by repeat (first | (with_reducible first | exact HB.out | apply below_alloc | apply pw_below_drewN | apply below_drew1 | refine below_set ?_ GE275.out) | exact HB.out)) hb); have n3_ := Aside0.mk (hbox); have n4_ := Aside0.mk ((by rw [hg]; exact (below_size (by repeat (first | (with_reducible first | exact HB.out | apply below_alloc | apply pw_below_drewN | apply below_drew1 | refine below_set ?_ GE275.out) | exact HB.out))) : w.heap.size ≤ gb277)); have n5_ := Aside0.mk ((by rw [hg]; exact (below_size (by repeat (first | (with_reducible first | exact HB.out | apply below_alloc | apply pw_below_drewN | apply below_drew1 | refine below_set ?_ GE275.out) | exact HB.out))) : w.heap.size ≤ gb277)); have n6_ := Aside0.mk ((by rw [hg]; exact Nat.ne_of_lt (blk_lt (g := gb275) (o := .cells #[.string ((rd_T41 l1 x41_2).f0), .int .u64 ((rd_T41 l1 x41_2).f1.f0), .int .u32 ((rd_T41 l1 x41_2).f1.f1), .int .u8 ((rd_T41 l1 x41_2).f1.f2), .int .u8 ((rd_T41 l1 x41_2).f2), .int .u32 ((rd_T41 l1 x41_2).f3), .int .u64 ((rd_T41 l1 x41_2).f4), .string ((rd_T41 l1 x41_2).f5)] 41 (0, 0)) (by (with_reducible repeat (first | refine blk_drewN ?_ _ | refine blk_drew ?_ | refine blk_alloc ?_ _)); exact BK275.out)) : gb275 ≠ gb277)); have n7_ := Aside0.mk ((by rw [hg]; exact Nat.ne_of_gt (blk_lt (g := gb275) (o := .cells #[.string ((rd_T41 l1 x41_2).f0), .int .u64 ((rd_T41 l1 x41_2).f1.f0), .int .u32 ((rd_T41 l1 x41_2).f1.f1), .int .u8 ((rd_T41 l1 x41_2).f1.f2), .int .u8 ((rd_T41 l1 x41_2).f2), .int .u32 ((rd_T41 l1 x41_2).f3), .int .u64 ((rd_T41 l1 x41_2).f4), .string ((rd_T41 l1 x41_2).f5)] 41 (0, 0)) (by (with_reducible repeat (first | refine blk_drewN ?_ _ | refine blk_drew ?_ | refine blk_alloc ?_ _)); exact BK275.out)) : gb277 ≠ gb275)); clear HO_5; clear BK275; clear HB; have HO_5 := n0_; have BK275 := n1_; have HB := n2_; have BK277 := n3_; have GW277 := n4_; have GE277 := n5_; have NB275_277 := n6_; have NB277_275 := n7_; clear n0_ n1_ n2_ n3_ n4_ n5_ n6_ n7_; clear hb hbox hg; have hnb33 := NB277_275.out; have hnc33 := NB275_277.out; have hcz34_0 : w32.cell? ⟨gb277, 0, none⟩ = some (.string (⟨#[]⟩ : ByteArray)) := (blk_cell BK277.out 0).trans rfl; have hcz34_1 : w32.cell? ⟨gb277, 1, none⟩ = some (.int .u64 0) := (blk_cell BK277.out 1).trans rfl; have hcz34_2 : w32.cell? ⟨gb277, 2, none⟩ = some (.int .u32 0) := (blk_cell BK277.out 2).trans rfl; have hcz34_3 : w32.cell? ⟨gb277, 3, none⟩ = some (.int .u8 0) := (blk_cell BK277.out 3).trans rfl; have hcz34_4 : w32.cell? ⟨gb277, 4, none⟩ = some (.int .u8 0) := (blk_cell BK277.out 4).trans rfl; have hcz34_5 : w32.cell? ⟨gb277, 5, none⟩ = some (.int .u32 0) := (blk_cell BK277.out 5).trans rfl; have hcz34_6 : w32.cell? ⟨gb277, 6, none⟩ = some (.int .u64 0) := (blk_cell BK277.out 6).trans rfl; have hcz34_7 : w32.cell? ⟨gb277, 7, none⟩ = some (.string (⟨#[]⟩ : ByteArray)) := (blk_cell BK277.out 7).trans rfl; have hfz34_0 := blk_frozen BK277.out 0; have hfz34_1 := blk_frozen BK277.out 1; have hfz34_2 := blk_frozen BK277.out 2; have hfz34_3 := blk_frozen BK277.out 3; have hfz34_4 := blk_frozen BK277.out 4; have hfz34_5 := blk_frozen BK277.out 5; have hfz34_6 := blk_frozen BK277.out 6; have hfz34_7 := blk_frozen BK277.out 7))
                              go_roundg k3
                              case measure => have := HK1.out; have := HK2.out; have := HK3.out; omega
                              case rel => exact ⟨(true), (wrap64 (x47_3 + 1)), (by first | rfl | (simp; done) | (simp [*]; done)), (by first | rfl | (simp; done) | (simp [*]; done)), H', ⟨by have := HK1.out; have := HK2.out; have := HK3.out; omega⟩, ⟨by (with_reducible repeat (first | apply Kd.R_alloc | apply Kd.R_drewN | apply Kd.R_drew)); exact Kd.R_mono (Kd.R_far (p := ⟨gb277, 7, none⟩) (Kd.R_far (p := ⟨gb277, 6, none⟩) (Kd.R_far (p := ⟨gb277, 5, none⟩) (Kd.R_far (p := ⟨gb277, 4, none⟩) (Kd.R_far (p := ⟨gb277, 3, none⟩) (Kd.R_far (p := ⟨gb277, 2, none⟩) (Kd.R_far (p := ⟨gb277, 1, none⟩) (Kd.R_far (p := ⟨gb277, 0, none⟩) (Kd.R_mono HO_5.out (fun k_ hk => (⟨hk, hk.2⟩ : _ ∧ k_ ≠ gb277))) (fun _ hk => hk.2) (.string ((rd_T41 l0 x47_3).f0))) (fun _ hk => hk.2) (.int .u64 ((rd_T41 l0 x47_3).f1.f0))) (fun _ hk => hk.2) (.int .u32 ((rd_T41 l0 x47_3).f1.f1))) (fun _ hk => hk.2) (.int .u8 ((rd_T41 l0 x47_3).f1.f2))) (fun _ hk => hk.2) (.int .u8 ((rd_T41 l0 x47_3).f2))) (fun _ hk => hk.2) (.int .u32 ((rd_T41 l0 x47_3).f3))) (fun _ hk => hk.2) (.int .u64 ((rd_T41 l0 x47_3).f4))) (fun _ hk => hk.2) (.string ((rd_T41 l0 x47_3).f5))) (fun _ hk => hk.1.1)⟩, ⟨by (with_reducible repeat (first | refine blk_drewN ?_ _ | refine blk_drew ?_ | refine blk_alloc ?_ _)); refine blk_far ?_ NB275_277.out _; (with_reducible repeat (first | refine blk_drewN ?_ _ | refine blk_drew ?_ | refine blk_alloc ?_ _)); refine blk_far ?_ NB275_277.out _; (with_reducible repeat (first | refine blk_drewN ?_ _ | refine blk_drew ?_ | refine blk_alloc ?_ _)); refine blk_far ?_ NB275_277.out _; (with_reducible repeat (first | refine blk_drewN ?_ _ | refine blk_drew ?_ | refine blk_alloc ?_ _)); refine blk_far ?_ NB275_277.out _; (with_reducible repeat (first | refine blk_drewN ?_ _ | refine blk_drew ?_ | refine blk_alloc ?_ _)); refine blk_far ?_ NB275_277.out _; (with_reducible repeat (first | refine blk_drewN ?_ _ | refine blk_drew ?_ | refine blk_alloc ?_ _)); refine blk_far ?_ NB275_277.out _; (with_reducible repeat (first | refine blk_drewN ?_ _ | refine blk_drew ?_ | refine blk_alloc ?_ _)); refine blk_far ?_ NB275_277.out _; (with_reducible repeat (first | refine blk_drewN ?_ _ | refine blk_drew ?_ | refine blk_alloc ?_ _)); refine blk_far ?_ NB275_277.out _; (with_reducible repeat (first | refine blk_drewN ?_ _ | refine blk_drew ?_ | refine blk_alloc ?_ _)); exact BK275.out⟩, ⟨by repeat (first | (with_reducible first | exact HB.out | apply below_alloc | apply pw_below_drewN | apply below_drew1 | refine below_set ?_ GE275.out | refine below_set ?_ GE277.out) | exact HB.out)⟩⟩
                            · replace c31 := Bool.eq_false_iff.mpr c31
                              subst c31
                              have H1 : (tattlerlaw15_give.l3 k3 l0 x5_2 (((rd_T41 l0 x47_3).f0).toList == ((rd_T41 l1 x41_2).f0).toList) l1 (l1.length : Int) x41_2 l0 (l0.length : Int) (wrap64 (x47_3 + 1)) ((rd_T41 l1 x41_2).f0) ((rd_T41 l1 x41_2).f1.f0) ((rd_T41 l1 x41_2).f1.f1) ((rd_T41 l1 x41_2).f1.f2) ((rd_T41 l1 x41_2).f2) ((rd_T41 l1 x41_2).f3) ((rd_T41 l1 x41_2).f4) ((rd_T41 l1 x41_2).f5)) = some r := by rw [if_neg (show ¬ (false = true) by decide)] at H; exact H
                              clear H
                              have H := H1
                              clear H1
                              have H' := Aside0.mk H
                              clear H
                              have p276 : 0 ≤ (x47_3 : Int) := of_decide_eq_true (by first | (with_reducible assumption) | assumption)
                              have q276 : x47_3 < (l0.length : Int) := of_decide_eq_true (by first | (with_reducible assumption) | assumption)
                              obtain ⟨ad276, e276, hx276_0, hx276_1, hx276_2, hx276_3, hx276_4, hx276_5, hx276_6, hx276_7⟩ := at_T41 HR0.out x47_3 p276 q276
                              cases e276
                              replace hx276_0 := (HB.out.cell (World.block_lt_of_cell? w _ hx276_0)).trans hx276_0
                              replace hx276_1 := (HB.out.cell (World.block_lt_of_cell? w _ hx276_1)).trans hx276_1
                              replace hx276_2 := (HB.out.cell (World.block_lt_of_cell? w _ hx276_2)).trans hx276_2
                              replace hx276_3 := (HB.out.cell (World.block_lt_of_cell? w _ hx276_3)).trans hx276_3
                              replace hx276_4 := (HB.out.cell (World.block_lt_of_cell? w _ hx276_4)).trans hx276_4
                              replace hx276_5 := (HB.out.cell (World.block_lt_of_cell? w _ hx276_5)).trans hx276_5
                              replace hx276_6 := (HB.out.cell (World.block_lt_of_cell? w _ hx276_6)).trans hx276_6
                              replace hx276_7 := (HB.out.cell (World.block_lt_of_cell? w _ hx276_7)).trans hx276_7
                              replace p276 := eq_true p276
                              replace q276 := eq_true q276
                              go_wp2_with (first | ((with_reducible refine gate_dst (N := 14) rfl ?_); refine box_event ?hg (N := 14) ?hd (cs := #[.string (⟨#[]⟩ : ByteArray), .int .u64 0, .int .u32 0, .int .u8 0, .int .u8 0, .int .u32 0, .int .u64 0, .string (⟨#[]⟩ : ByteArray)]) (t := 41) ?hr ?_; (case hd => rfl); (case hg => rfl); (case hr => first | (go_simp; done) | (go_simp; rfl)); intro gb277 hg w35 hbox hb; have n0_ := Aside0.mk (Kd.R_below (Kd.R_elderB (by (with_reducible repeat (first | apply Kd.R_alloc | apply Kd.R_drewN | apply Kd.R_drew)); exact HO_5.out) gb277 (Nat.le_of_eq hg.symm)) hb); have n1_ := Aside0.mk (blk_below (g := gb275) (o := .cells #[.string ((rd_T41 l1 x41_2).f0), .int .u64 ((rd_T41 l1 x41_2).f1.f0), .int .u32 ((rd_T41 l1 x41_2).f1.f1), .int .u8 ((rd_T41 l1 x41_2).f1.f2), .int .u8 ((rd_T41 l1 x41_2).f2), .int .u32 ((rd_T41 l1 x41_2).f3), .int .u64 ((rd_T41 l1 x41_2).f4), .string ((rd_T41 l1 x41_2).f5)] 41 (0, 0)) (by (with_reducible repeat (first | refine blk_drewN ?_ _ | refine blk_drew ?_ | refine blk_alloc ?_ _)); exact BK275.out) hb); have n2_ := Aside0.mk (below_step (by repeat (first | (with_reducible first | exact HB.out | apply below_alloc | apply pw_below_drewN | apply below_drew1 | refine below_set ?_ GE275.out) | exact HB.out)) hb); have n3_ := Aside0.mk (hbox); have n4_ := Aside0.mk ((by rw [hg]; exact (below_size (by repeat (first | (with_reducible first | exact HB.out | apply below_alloc | apply pw_below_drewN | apply below_drew1 | refine below_set ?_ GE275.out) | exact HB.out))) : w.heap.size ≤ gb277)); have n5_ := Aside0.mk ((by rw [hg]; exact (below_size (by repeat (first | (with_reducible first | exact HB.out | apply below_alloc | apply pw_below_drewN | apply below_drew1 | refine below_set ?_ GE275.out) | exact HB.out))) : w.heap.size ≤ gb277)); have n6_ := Aside0.mk ((by rw [hg]; exact Nat.ne_of_lt (blk_lt (g := gb275) (o := .cells #[.string ((rd_T41 l1 x41_2).f0), .int .u64 ((rd_T41 l1 x41_2).f1.f0), .int .u32 ((rd_T41 l1 x41_2).f1.f1), .int .u8 ((rd_T41 l1 x41_2).f1.f2), .int .u8 ((rd_T41 l1 x41_2).f2), .int .u32 ((rd_T41 l1 x41_2).f3), .int .u64 ((rd_T41 l1 x41_2).f4), .string ((rd_T41 l1 x41_2).f5)] 41 (0, 0)) (by (with_reducible repeat (first | refine blk_drewN ?_ _ | refine blk_drew ?_ | refine blk_alloc ?_ _)); exact BK275.out)) : gb275 ≠ gb277)); have n7_ := Aside0.mk ((by rw [hg]; exact Nat.ne_of_gt (blk_lt (g := gb275) (o := .cells #[.string ((rd_T41 l1 x41_2).f0), .int .u64 ((rd_T41 l1 x41_2).f1.f0), .int .u32 ((rd_T41 l1 x41_2).f1.f1), .int .u8 ((rd_T41 l1 x41_2).f1.f2), .int .u8 ((rd_T41 l1 x41_2).f2), .int .u32 ((rd_T41 l1 x41_2).f3), .int .u64 ((rd_T41 l1 x41_2).f4), .string ((rd_T41 l1 x41_2).f5)] 41 (0, 0)) (by (with_reducible repeat (first | refine blk_drewN ?_ _ | refine blk_drew ?_ | refine blk_alloc ?_ _)); exact BK275.out)) : gb277 ≠ gb275)); clear HO_5; clear BK275; clear HB; have HO_5 := n0_; have BK275 := n1_; have HB := n2_; have BK277 := n3_; have GW277 := n4_; have GE277 := n5_; have NB275_277 := n6_; have NB277_275 := n7_; clear n0_ n1_ n2_ n3_ n4_ n5_ n6_ n7_; clear hb hbox hg; have hnb36 := NB277_275.out; have hnc36 := NB275_277.out; have hcz37_0 : w35.cell? ⟨gb277, 0, none⟩ = some (.string (⟨#[]⟩ : ByteArray)) := (blk_cell BK277.out 0).trans rfl; have hcz37_1 : w35.cell? ⟨gb277, 1, none⟩ = some (.int .u64 0) := (blk_cell BK277.out 1).trans rfl; have hcz37_2 : w35.cell? ⟨gb277, 2, none⟩ = some (.int .u32 0) := (blk_cell BK277.out 2).trans rfl; have hcz37_3 : w35.cell? ⟨gb277, 3, none⟩ = some (.int .u8 0) := (blk_cell BK277.out 3).trans rfl; have hcz37_4 : w35.cell? ⟨gb277, 4, none⟩ = some (.int .u8 0) := (blk_cell BK277.out 4).trans rfl; have hcz37_5 : w35.cell? ⟨gb277, 5, none⟩ = some (.int .u32 0) := (blk_cell BK277.out 5).trans rfl; have hcz37_6 : w35.cell? ⟨gb277, 6, none⟩ = some (.int .u64 0) := (blk_cell BK277.out 6).trans rfl; have hcz37_7 : w35.cell? ⟨gb277, 7, none⟩ = some (.string (⟨#[]⟩ : ByteArray)) := (blk_cell BK277.out 7).trans rfl; have hfz37_0 := blk_frozen BK277.out 0; have hfz37_1 := blk_frozen BK277.out 1; have hfz37_2 := blk_frozen BK277.out 2; have hfz37_3 := blk_frozen BK277.out 3; have hfz37_4 := blk_frozen BK277.out 4; have hfz37_5 := blk_frozen BK277.out 5; have hfz37_6 := blk_frozen BK277.out 6; have hfz37_7 := blk_frozen BK277.out 7; have hcz38_0 : w35.cell? ⟨gb275, 0, none⟩ = some (.string ((rd_T41 l1 x41_2).f0)) := (blk_cell BK275.out 0).trans rfl; have hcz38_1 : w35.cell? ⟨gb275, 1, none⟩ = some (.int .u64 ((rd_T41 l1 x41_2).f1.f0)) := (blk_cell BK275.out 1).trans rfl; have hcz38_2 : w35.cell? ⟨gb275, 2, none⟩ = some (.int .u32 ((rd_T41 l1 x41_2).f1.f1)) := (blk_cell BK275.out 2).trans rfl; have hcz38_3 : w35.cell? ⟨gb275, 3, none⟩ = some (.int .u8 ((rd_T41 l1 x41_2).f1.f2)) := (blk_cell BK275.out 3).trans rfl; have hcz38_4 : w35.cell? ⟨gb275, 4, none⟩ = some (.int .u8 ((rd_T41 l1 x41_2).f2)) := (blk_cell BK275.out 4).trans rfl; have hcz38_5 : w35.cell? ⟨gb275, 5, none⟩ = some (.int .u32 ((rd_T41 l1 x41_2).f3)) := (blk_cell BK275.out 5).trans rfl; have hcz38_6 : w35.cell? ⟨gb275, 6, none⟩ = some (.int .u64 ((rd_T41 l1 x41_2).f4)) := (blk_cell BK275.out 6).trans rfl; have hcz38_7 : w35.cell? ⟨gb275, 7, none⟩ = some (.string ((rd_T41 l1 x41_2).f5)) := (blk_cell BK275.out 7).trans rfl; have hfz38_0 := blk_frozen BK275.out 0; have hfz38_1 := blk_frozen BK275.out 1; have hfz38_2 := blk_frozen BK275.out 2; have hfz38_3 := blk_frozen BK275.out 3; have hfz38_4 := blk_frozen BK275.out 4; have hfz38_5 := blk_frozen BK275.out 5; have hfz38_6 := blk_frozen BK275.out 6; have hfz38_7 := blk_frozen BK275.out 7))
                              go_roundg k3
                              case measure => have := HK1.out; have := HK2.out; have := HK3.out; omega
                              case rel => exact ⟨((((rd_T41 l0 x47_3).f0).toList == ((rd_T41 l1 x41_2).f0).toList)), (wrap64 (x47_3 + 1)), (by first | rfl | (simp; done) | (simp [*]; done)), (by first | rfl | (simp; done) | (simp [*]; done)), H', ⟨by have := HK1.out; have := HK2.out; have := HK3.out; omega⟩, ⟨by (with_reducible repeat (first | apply Kd.R_alloc | apply Kd.R_drewN | apply Kd.R_drew)); exact Kd.R_mono (Kd.R_far (p := ⟨gb277, 7, none⟩) (Kd.R_far (p := ⟨gb277, 6, none⟩) (Kd.R_far (p := ⟨gb277, 5, none⟩) (Kd.R_far (p := ⟨gb277, 4, none⟩) (Kd.R_far (p := ⟨gb277, 3, none⟩) (Kd.R_far (p := ⟨gb277, 2, none⟩) (Kd.R_far (p := ⟨gb277, 1, none⟩) (Kd.R_far (p := ⟨gb277, 0, none⟩) (Kd.R_mono HO_5.out (fun k_ hk => (⟨hk, hk.2⟩ : _ ∧ k_ ≠ gb277))) (fun _ hk => hk.2) (.string ((rd_T41 l0 x47_3).f0))) (fun _ hk => hk.2) (.int .u64 ((rd_T41 l0 x47_3).f1.f0))) (fun _ hk => hk.2) (.int .u32 ((rd_T41 l0 x47_3).f1.f1))) (fun _ hk => hk.2) (.int .u8 ((rd_T41 l0 x47_3).f1.f2))) (fun _ hk => hk.2) (.int .u8 ((rd_T41 l0 x47_3).f2))) (fun _ hk => hk.2) (.int .u32 ((rd_T41 l0 x47_3).f3))) (fun _ hk => hk.2) (.int .u64 ((rd_T41 l0 x47_3).f4))) (fun _ hk => hk.2) (.string ((rd_T41 l0 x47_3).f5))) (fun _ hk => hk.1.1)⟩, ⟨by (with_reducible repeat (first | refine blk_drewN ?_ _ | refine blk_drew ?_ | refine blk_alloc ?_ _)); refine blk_far ?_ NB275_277.out _; (with_reducible repeat (first | refine blk_drewN ?_ _ | refine blk_drew ?_ | refine blk_alloc ?_ _)); refine blk_far ?_ NB275_277.out _; (with_reducible repeat (first | refine blk_drewN ?_ _ | refine blk_drew ?_ | refine blk_alloc ?_ _)); refine blk_far ?_ NB275_277.out _; (with_reducible repeat (first | refine blk_drewN ?_ _ | refine blk_drew ?_ | refine blk_alloc ?_ _)); refine blk_far ?_ NB275_277.out _; (with_reducible repeat (first | refine blk_drewN ?_ _ | refine blk_drew ?_ | refine blk_alloc ?_ _)); refine blk_far ?_ NB275_277.out _; (with_reducible repeat (first | refine blk_drewN ?_ _ | refine blk_drew ?_ | refine blk_alloc ?_ _)); refine blk_far ?_ NB275_277.out _; (with_reducible repeat (first | refine blk_drewN ?_ _ | refine blk_drew ?_ | refine blk_alloc ?_ _)); refine blk_far ?_ NB275_277.out _; (with_reducible repeat (first | refine blk_drewN ?_ _ | refine blk_drew ?_ | refine blk_alloc ?_ _)); refine blk_far ?_ NB275_277.out _; (with_reducible repeat (first | refine blk_drewN ?_ _ | refine blk_drew ?_ | refine blk_alloc ?_ _)); exact BK275.out⟩, ⟨by repeat (first | (with_reducible first | exact HB.out | apply below_alloc | apply pw_below_drewN | apply below_drew1 | refine below_set ?_ GE275.out | refine below_set ?_ GE277.out) | exact HB.out)⟩⟩
                          · rw [if_neg c30] at H
                            exact absurd H (by simp)
                        · rw [if_neg c29] at H
                          exact absurd H (by simp)
                      · rw [if_neg c28] at H
                        have c28b0 : decide (x47_3 < (l0.length : Int)) = false := decide_eq_false c28
                        clear c28
                        by_cases c39 : x12_3 = true
                        · subst c39
                          have H1 : (tattlerlaw15_give.l2 k3 l0 x5_2 l1 (l1.length : Int) (wrap64 (x41_2 + 1))) = some r := by rw [if_pos rfl] at H; exact H
                          clear H
                          have H := H1
                          clear H1
                          have H' := Aside0.mk H
                          clear H
                          go_wp2
                          go_roundg k3
                          case measure => have := HK1.out; have := HK2.out; have := HK3.out; omega
                          case rel => exact ⟨(x5_2), (wrap64 (x41_2 + 1)), (by first | rfl | (simp; done) | (simp [*]; done)), H', ⟨by have := HK1.out; have := HK2.out; have := HK3.out; omega⟩, ⟨by (with_reducible repeat (first | apply Kd.R_alloc | apply Kd.R_drewN | apply Kd.R_drew)); exact Kd.R_mono HO_5.out (fun _ hk => trivial)⟩, ⟨by repeat (first | (with_reducible first | exact HB.out | apply below_alloc | apply pw_below_drewN | apply below_drew1 | refine below_set ?_ GE275.out) | exact HB.out)⟩⟩
                        · replace c39 := Bool.eq_false_iff.mpr c39
                          subst c39
                          have H1 : (if x5_2.length < 2199023255552 then (tattlerlaw15_give.l2 k3 l0 (x5_2 ++ [(⟨((rd_T41 l1 x41_2).f0), (⟨((rd_T41 l1 x41_2).f1.f0), ((rd_T41 l1 x41_2).f1.f1), ((rd_T41 l1 x41_2).f1.f2)⟩ : S39), ((rd_T41 l1 x41_2).f2), ((rd_T41 l1 x41_2).f3), ((rd_T41 l1 x41_2).f4), ((rd_T41 l1 x41_2).f5)⟩ : S41)]) l1 (l1.length : Int) (wrap64 (x41_2 + 1))) else (none)) = some r := by rw [if_neg (show ¬ (false = true) by decide)] at H; exact H
                          clear H
                          have H := H1
                          clear H1
                          by_cases c40 : x5_2.length < 2199023255552
                          · rw [if_pos c40] at H
                            have LMc40 := Aside0.mk c40
                            clear c40
                            obtain ⟨y278, hy278⟩ : ∃ y_ : List (S41), y_ = (x5_2 ++ [(⟨((rd_T41 l1 x41_2).f0), (⟨((rd_T41 l1 x41_2).f1.f0), ((rd_T41 l1 x41_2).f1.f1), ((rd_T41 l1 x41_2).f1.f2)⟩ : S39), ((rd_T41 l1 x41_2).f2), ((rd_T41 l1 x41_2).f3), ((rd_T41 l1 x41_2).f4), ((rd_T41 l1 x41_2).f5)⟩ : S41)]) := ⟨_, rfl⟩
                            replace H : (tattlerlaw15_give.l2 k3 l0 y278 l1 (l1.length : Int) (wrap64 (x41_2 + 1))) = some r := by first | (rw [hy278]; with_reducible exact H) | (have H2_ := (Option.bind_some _ _).symm.trans H; rw [hy278]; with_reducible exact H2_) | (have H2_ := (Option.bind_some _ _).symm.trans H; with_reducible exact H2_) | with_reducible exact H | (rw [hy278]; exact H) | exact H
                            have Ny278 := Aside0.mk hy278
                            clear hy278
                            have H' := Aside0.mk H
                            clear H
                            have hcz41_0 : wr.cell? ⟨gb275, 0, none⟩ = some (.string ((rd_T41 l1 x41_2).f0)) := (blk_cell BK275.out 0).trans rfl
                            have hcz41_1 : wr.cell? ⟨gb275, 1, none⟩ = some (.int .u64 ((rd_T41 l1 x41_2).f1.f0)) := (blk_cell BK275.out 1).trans rfl
                            have hcz41_2 : wr.cell? ⟨gb275, 2, none⟩ = some (.int .u32 ((rd_T41 l1 x41_2).f1.f1)) := (blk_cell BK275.out 2).trans rfl
                            have hcz41_3 : wr.cell? ⟨gb275, 3, none⟩ = some (.int .u8 ((rd_T41 l1 x41_2).f1.f2)) := (blk_cell BK275.out 3).trans rfl
                            have hcz41_4 : wr.cell? ⟨gb275, 4, none⟩ = some (.int .u8 ((rd_T41 l1 x41_2).f2)) := (blk_cell BK275.out 4).trans rfl
                            have hcz41_5 : wr.cell? ⟨gb275, 5, none⟩ = some (.int .u32 ((rd_T41 l1 x41_2).f3)) := (blk_cell BK275.out 5).trans rfl
                            have hcz41_6 : wr.cell? ⟨gb275, 6, none⟩ = some (.int .u64 ((rd_T41 l1 x41_2).f4)) := (blk_cell BK275.out 6).trans rfl
                            have hcz41_7 : wr.cell? ⟨gb275, 7, none⟩ = some (.string ((rd_T41 l1 x41_2).f5)) := (blk_cell BK275.out 7).trans rfl
                            have hfz41_0 := blk_frozen BK275.out 0
                            have hfz41_1 := blk_frozen BK275.out 1
                            have hfz41_2 := blk_frozen BK275.out 2
                            have hfz41_3 := blk_frozen BK275.out 3
                            have hfz41_4 := blk_frozen BK275.out 4
                            have hfz41_5 := blk_frozen BK275.out 5
                            have hfz41_6 := blk_frozen BK275.out 6
                            have hfz41_7 := blk_frozen BK275.out 7
                            go_wp2_with (first | ((with_reducible refine gate_builtin (b := .append) (xs := #[.tmp 62, .tmp 64]) rfl ?_); at_builtin; refine Kd.R_append k41 (w0 := w) w.heap.size rfl (.tmp 62) (.tmp 64) 22 41 (.agg #[(.string ⟨#[]⟩), (.int .u64 0), (.int .u32 0), (.int .u8 0), (.int .u8 0), (.int .u32 0), (.int .u64 0), (.string ⟨#[]⟩)]) 64 rfl Try.underlying22 info41 rfl (by decide) (by omega) u5 x5_2 (⟨((rd_T41 l1 x41_2).f0), (⟨((rd_T41 l1 x41_2).f1.f0), ((rd_T41 l1 x41_2).f1.f1), ((rd_T41 l1 x41_2).f1.f2)⟩ : S39), ((rd_T41 l1 x41_2).f2), ((rd_T41 l1 x41_2).f3), ((rd_T41 l1 x41_2).f4), ((rd_T41 l1 x41_2).f5)⟩ : S41) [.string ((rd_T41 l1 x41_2).f0), .int .u64 ((rd_T41 l1 x41_2).f1.f0), .int .u32 ((rd_T41 l1 x41_2).f1.f1), .int .u8 ((rd_T41 l1 x41_2).f1.f2), .int .u8 ((rd_T41 l1 x41_2).f2), .int .u32 ((rd_T41 l1 x41_2).f3), .int .u64 ((rd_T41 l1 x41_2).f4), .string ((rd_T41 l1 x41_2).f5)] (fun k_ => k_ ≠ gb275) (fun _ => False) rfl rfl ?aP (fun _ hk => hk.elim) ?aF ?aO ?aB ?aS ?aL ?_; (case aP => exact k41_mkM _ _ _ (⟨((rd_T41 l1 x41_2).f0), (⟨((rd_T41 l1 x41_2).f1.f0), ((rd_T41 l1 x41_2).f1.f1), ((rd_T41 l1 x41_2).f1.f2)⟩ : S39), ((rd_T41 l1 x41_2).f2), ((rd_T41 l1 x41_2).f3), ((rd_T41 l1 x41_2).f4), ((rd_T41 l1 x41_2).f5)⟩ : S41)); (case aB => exact (by repeat (first | (with_reducible first | exact HB.out | apply below_alloc | apply pw_below_drewN | apply below_drew1 | refine below_set ?_ GE275.out) | exact HB.out))); (case aF => exact (fun k_ hk => Kd.freshB (g := gb275) (o := .cells #[.string ((rd_T41 l1 x41_2).f0), .int .u64 ((rd_T41 l1 x41_2).f1.f0), .int .u32 ((rd_T41 l1 x41_2).f1.f1), .int .u8 ((rd_T41 l1 x41_2).f1.f2), .int .u8 ((rd_T41 l1 x41_2).f2), .int .u32 ((rd_T41 l1 x41_2).f3), .int .u64 ((rd_T41 l1 x41_2).f4), .string ((rd_T41 l1 x41_2).f5)] 41 (0, 0)) (by (with_reducible repeat (first | refine blk_drewN ?_ _ | refine blk_drew ?_ | refine blk_alloc ?_ _)); exact BK275.out) k_ hk)); (case aO => exact (by (with_reducible repeat (first | apply Kd.R_alloc | apply Kd.R_drewN | apply Kd.R_drew)); exact HO_5.out)); (case aS => exact (below_size (by repeat (first | (with_reducible first | exact HB.out | apply below_alloc | apply pw_below_drewN | apply below_drew1 | refine below_set ?_ GE275.out) | exact HB.out)))); (case aL => have := LMc40.out; omega); intro v279 w42 ho hb hg hat; rw [← Ny278.out] at ho; have n0_ := Aside0.mk (blk_grown (g := gb275) (o := .cells #[.string ((rd_T41 l1 x41_2).f0), .int .u64 ((rd_T41 l1 x41_2).f1.f0), .int .u32 ((rd_T41 l1 x41_2).f1.f1), .int .u8 ((rd_T41 l1 x41_2).f1.f2), .int .u8 ((rd_T41 l1 x41_2).f2), .int .u32 ((rd_T41 l1 x41_2).f3), .int .u64 ((rd_T41 l1 x41_2).f4), .string ((rd_T41 l1 x41_2).f5)] 41 (0, 0)) (by (with_reducible repeat (first | refine blk_drewN ?_ _ | refine blk_drew ?_ | refine blk_alloc ?_ _)); exact BK275.out) hg (Kd.R_away HO_5.out (fun _ hk => hk))); have n1_ := Aside0.mk (hb); have n2_ := Aside0.mk (ho); clear BK275; clear HB; clear HO_5; have BK275 := n0_; have HB := n1_; have HO280 := n2_; clear n0_ n1_ n2_; clear ho hb hg hat))
                            go_roundg k3
                            case measure => have := HK1.out; have := HK2.out; have := HK3.out; omega
                            case rel => exact ⟨(y278), (wrap64 (x41_2 + 1)), (by first | rfl | (simp; done) | (simp [*]; done)), H', ⟨by have := HK1.out; have := HK2.out; have := HK3.out; omega⟩, ⟨by (with_reducible repeat (first | apply Kd.R_alloc | apply Kd.R_drewN | apply Kd.R_drew)); exact Kd.R_mono HO280.out (fun _ hk => trivial)⟩, ⟨by repeat (first | (with_reducible first | exact HB.out | apply below_alloc | apply pw_below_drewN | apply below_drew1 | refine below_set ?_ GE275.out) | exact HB.out)⟩⟩
                          · rw [if_neg c40] at H
                            exact absurd H (by simp)
                · rw [if_neg c25] at H
                  exact absurd H (by simp)
              · rw [if_neg c24] at H
                exact absurd H (by simp)
            · rw [if_neg c23] at H
              have c23b0 : decide (x41_2 < (l1.length : Int)) = false := decide_eq_false c23
              clear c23
              obtain rfl := Option.some.inj H
              go_wp2
              go_ret
              exact ⟨_, by first | rfl | (simp [errW_none, errW_some] <;> rfl) | (simp [*, errW_none, errW_some] <;> rfl), by (with_reducible repeat (first | apply Kd.R_alloc | apply Kd.R_drewN | apply Kd.R_drew)); exact HO_5.out, by repeat (first | (with_reducible first | exact HB.out | apply below_alloc | apply pw_below_drewN | apply below_drew1) | exact HB.out)⟩

-- NOT PRINTED: function 4 (tattlerlaw15_SweepBoth)

/-! ### tattlerref10_Same: function 16 -/
def tattlerref10_Same.l0 : Nat → List ByteArray → List ByteArray → Int → Int → Option (Bool)
  | 0, _, _, _, _ => none
  | k + 1, x0, x1, x12, x13 => if x13 < x12 then (if 0 ≤ x13 then (if x13 < (x0.length : Int) then (if x13 < (x1.length : Int) then (if (rdOf ByteArray.empty x0 x13).toList = (rdOf ByteArray.empty x1 x13).toList then (tattlerref10_Same.l0 k x0 x1 x12 (wrap64 (x13 + 1))) else (some false)) else (none)) else (none)) else (none)) else (some true)
def tattlerref10_Same.f (k : Nat) (l0 : List ByteArray) (l1 : List ByteArray) : Option (Bool) := if (l0.length : Int) = (l1.length : Int) then (tattlerref10_Same.l0 k l0 l1 (l0.length : Int) 0) else (some false)
theorem tattlerref10_Same.mono_l : ∀ k, (∀ y0 y1 y2 y3, LeO (tattlerref10_Same.l0 k y0 y1 y2 y3) (tattlerref10_Same.l0 (k + 1) y0 y1 y2 y3))
  | 0 => fun _ _ _ _ r h => by simp [tattlerref10_Same.l0] at h
  | k + 1 => by
    have ih0 := tattlerref10_Same.mono_l k
    · intro y0 y1 y2 y3
      unfold tattlerref10_Same.l0
      repeat' first
      | (with_reducible exact ih0 _ _ _ _)
      | (with_reducible exact LeO.refl _)
      | (with_reducible exact LeO.none _)
      | (with_reducible refine LeO.ite ?_ ?_)
      | (with_reducible refine LeO.bind ?_ (fun _ => ?_))
      | exact ih0 _ _ _ _
      | exact LeO.none _
      | refine LeO.ite ?_ ?_
      | refine LeO.bind ?_ (fun _ => ?_)
theorem tattlerref10_Same.mono : ∀ a0 a1 k, LeO (tattlerref10_Same.f k a0 a1) (tattlerref10_Same.f (k + 1) a0 a1) := by
  intro a0 a1 k
  have ih0 := tattlerref10_Same.mono_l k
  unfold tattlerref10_Same.f
  repeat' first
      | (with_reducible exact ih0 _ _ _ _)
      | (with_reducible exact LeO.refl _)
      | (with_reducible exact LeO.none _)
      | (with_reducible refine LeO.ite ?_ ?_)
      | (with_reducible refine LeO.bind ?_ (fun _ => ?_))
      | exact ih0 _ _ _ _
      | exact LeO.none _
      | refine LeO.ite ?_ ?_
      | refine LeO.bind ?_ (fun _ => ?_)
set_option maxHeartbeats 8000000 in
set_option maxRecDepth 100000 in
theorem tattlerref10_Same.calls (k : Nat) (A0 : Option Addr) (c0 : Nat) (l0 : List ByteArray) (A1 : Option Addr) (c1 : Nat) (l1 : List ByteArray) (r : Bool) (w : World) (hr0 : Kd.C Kd.string w A0 l0.length l0) (hc0 : l0.length ≤ c0) (hr1 : Kd.C Kd.string w A1 l1.length l1) (hc1 : l1.length ≤ c1) (h : tattlerref10_Same.f k l0 l1 = some r) :
    Calls Try.prog 16 #[.slice A0 l0.length c0, .slice A1 l1.length c1] w fun e w' => e = .returned (.bool r) ∧ Drawn0 w w' := by
  have HR0 := Aside0.mk hr0
  have HC0 := Aside0.mk hc0
  clear hr0 hc0
  have HR1 := Aside0.mk hr1
  have HC1 := Aside0.mk hc1
  clear hr1 hc1
  have H : (if (l0.length : Int) = (l1.length : Int) then (tattlerref10_Same.l0 k l0 l1 (l0.length : Int) 0) else (some false)) = some r := h
  clear h
  by_cases c3 : (l0.length : Int) = (l1.length : Int)
  · rw [if_pos c3] at H
    have c3b0 : ((l0.length : Int) == (l1.length : Int)) = true := beq_iff_eq.mpr c3
    have c3b1 : ((l0.length : Int) != (l1.length : Int)) = false := bne_eq_false_iff_eq.mpr c3
    have c3b2 : (l0.length == l1.length) = true := by first | simpa using c3 | (simp at c3 ⊢; omega)
    clear c3
    have H' := Aside0.mk H
    clear H
    go_enter Try.func16, Try.ntmps16
    go_wp2
    repeat (go_quiet (fail); try go_wp2)
    go_loopg [13] k (fun kq v13 w' => ∃ (x13_1 : Int), v13 = .int .i64 x13_1 ∧ Aside0 (tattlerref10_Same.l0 kq l0 l1 (l0.length : Int) x13_1 = some r) ∧ Aside0 (kq ≤ k) ∧ Drawn0 w w')
    case atStart => exact ⟨(0), (by first | rfl | (simp; done) | (simp [*]; done)), H', ⟨Nat.le_refl _⟩, by repeat (first | exact Drawn0.refl _ | apply Drawn0.step)⟩
    case round =>
      clear H'
      try clear c1
      try clear p2
      try clear c3
      try clear c3b0
      try clear c3b1
      try clear c3b2
      obtain ⟨x13_1, rfl, HA, HK1, ⟨m1, rfl⟩⟩ := hrel
      cases gk with
      | zero => exact absurd HA.out (by simp [tattlerref10_Same.l0])
      | succ k1 =>
        have H := HA.out
        clear HA
        simp only [tattlerref10_Same.l0] at H
        by_cases c4 : x13_1 < (l0.length : Int)
        · rw [if_pos c4] at H
          have c4b0 : decide (x13_1 < (l0.length : Int)) = true := decide_eq_true c4
          clear c4
          by_cases c5 : 0 ≤ x13_1
          · rw [if_pos c5] at H
            have c5b0 : decide (0 ≤ x13_1) = true := decide_eq_true c5
            clear c5
            by_cases c6 : x13_1 < (l0.length : Int)
            · rw [if_pos c6] at H
              have c6b0 : decide (x13_1 < (l0.length : Int)) = true := decide_eq_true c6
              clear c6
              by_cases c7 : x13_1 < (l1.length : Int)
              · rw [if_pos c7] at H
                have c7b0 : decide (x13_1 < (l1.length : Int)) = true := decide_eq_true c7
                clear c7
                by_cases c8 : (rdOf ByteArray.empty l0 x13_1).toList = (rdOf ByteArray.empty l1 x13_1).toList
                · rw [if_pos c8] at H
                  have c8b0 : ((rdOf ByteArray.empty l0 x13_1).toList == (rdOf ByteArray.empty l1 x13_1).toList) = true := beq_iff_eq.mpr c8
                  have c8b1 : ((rdOf ByteArray.empty l0 x13_1).toList != (rdOf ByteArray.empty l1 x13_1).toList) = false := bne_eq_false_iff_eq.mpr c8
                  clear c8
                  have H' := Aside0.mk H
                  clear H
                  have p131 : 0 ≤ (x13_1 : Int) := of_decide_eq_true (by first | (with_reducible assumption) | assumption)
                  have q131 : x13_1 < (l0.length : Int) := of_decide_eq_true (by first | (with_reducible assumption) | assumption)
                  obtain ⟨ad131, e131, hx131_0⟩ := Kd.at_string HR0.out x13_1 p131 q131
                  cases e131
                  replace p131 := eq_true p131
                  replace q131 := eq_true q131
                  have p132 : 0 ≤ (x13_1 : Int) := of_decide_eq_true (by first | (with_reducible assumption) | assumption)
                  have q132 : x13_1 < (l1.length : Int) := of_decide_eq_true (by first | (with_reducible assumption) | assumption)
                  obtain ⟨ad132, e132, hx132_0⟩ := Kd.at_string HR1.out x13_1 p132 q132
                  cases e132
                  replace p132 := eq_true p132
                  replace q132 := eq_true q132
                  go_wp2
                  repeat (go_quiet (fail); try go_wp2)
                  go_roundg k1
                  case measure => have := HK1.out; omega
                  case rel => exact ⟨(wrap64 (x13_1 + 1)), (by first | rfl | (simp; done) | (simp [*]; done)), H', ⟨by have := HK1.out; omega⟩, by repeat (first | exact Drawn0.refl _ | apply Drawn0.step)⟩
                · rw [if_neg c8] at H
                  have c8b0 : ((rdOf ByteArray.empty l0 x13_1).toList == (rdOf ByteArray.empty l1 x13_1).toList) = false := beq_eq_false_iff_ne.mpr c8
                  have c8b1 : ((rdOf ByteArray.empty l0 x13_1).toList != (rdOf ByteArray.empty l1 x13_1).toList) = true := bne_iff_ne.mpr c8
                  obtain rfl := Option.some.inj H
                  have p131 : 0 ≤ (x13_1 : Int) := of_decide_eq_true (by first | (with_reducible assumption) | assumption)
                  have q131 : x13_1 < (l0.length : Int) := of_decide_eq_true (by first | (with_reducible assumption) | assumption)
                  obtain ⟨ad131, e131, hx131_0⟩ := Kd.at_string HR0.out x13_1 p131 q131
                  cases e131
                  replace p131 := eq_true p131
                  replace q131 := eq_true q131
                  have p132 : 0 ≤ (x13_1 : Int) := of_decide_eq_true (by first | (with_reducible assumption) | assumption)
                  have q132 : x13_1 < (l1.length : Int) := of_decide_eq_true (by first | (with_reducible assumption) | assumption)
                  obtain ⟨ad132, e132, hx132_0⟩ := Kd.at_string HR1.out x13_1 p132 q132
                  cases e132
                  replace p132 := eq_true p132
                  replace q132 := eq_true q132
                  go_wp2
                  repeat (go_quiet (fail); try go_wp2)
                  go_ret
                  exact ⟨by first | rfl | (simp; done) | (simp [*]; done), by repeat (first | exact Drawn0.refl _ | apply Drawn0.step)⟩
              · rw [if_neg c7] at H
                exact absurd H (by simp)
            · rw [if_neg c6] at H
              exact absurd H (by simp)
          · rw [if_neg c5] at H
            exact absurd H (by simp)
        · rw [if_neg c4] at H
          have c4b0 : decide (x13_1 < (l0.length : Int)) = false := decide_eq_false c4
          clear c4
          obtain rfl := Option.some.inj H
          go_wp2
          repeat (go_quiet (fail); try go_wp2)
          go_ret
          exact ⟨by first | rfl | (simp; done) | (simp [*]; done), by repeat (first | exact Drawn0.refl _ | apply Drawn0.step)⟩
  · rw [if_neg c3] at H
    have c3b0 : ((l0.length : Int) == (l1.length : Int)) = false := beq_eq_false_iff_ne.mpr c3
    have c3b1 : ((l0.length : Int) != (l1.length : Int)) = true := bne_iff_ne.mpr c3
    have c3b2 : (l0.length == l1.length) = false := by first | simpa using c3 | (simp at c3 ⊢; omega)
    obtain rfl := Option.some.inj H
    go_enter Try.func16, Try.ntmps16
    go_wp2
    repeat (go_quiet (fail); try go_wp2)
    go_ret
    exact ⟨by first | rfl | (simp; done) | (simp [*]; done), by repeat (first | exact Drawn0.refl _ | apply Drawn0.step)⟩


end Go.Proofs.Ytepceielndmjgaa.PSweepTells
