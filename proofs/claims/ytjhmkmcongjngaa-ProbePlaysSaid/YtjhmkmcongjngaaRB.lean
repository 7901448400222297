import Derived.Test.YtjhmkmcongjngaaPProbePlaysx2
namespace Go.Proofs.Ytjhmkmcongjngaa.PProbePlays
open Go.RowKit Go.Proofs.YtjhmkmcongjngaaW.PrintWords Go.Proofs.YtjhmkmcongjngaaW.PrintLast Go.Proofs.YtjhmkmcongjngaaW.PrintMore
attribute [local go_sem] max2_int min2_int max_two min_two max_three min_three max_four min_four   -- for this text's walks alone
set_option linter.unusedVariables false
set_option linter.unusedSimpArgs false

/-! ### tattlerref19_New: function 11 -/
mutual
def tattlerref19_New.j0 : Nat → Int → Int → Bool → Option (Int × Int × List Int × Int × (List (S88)) × Int × Int)
  | 0, _, _, _ => none
  | k + 1, x0, x1, x19 => if x19 = true then (some (0, 0, ([] : List Int), 0, ([] : List (S88)), 0, 1)) else (tattlerref19_New.l0 k x0 x1 0 x0 x1 ([] : List Int) 0 0)
def tattlerref19_New.l0 : Nat → Int → Int → Int → Int → Int → List Int → Int → Int → Option (Int × Int × List Int × Int × (List (S88)) × Int × Int)
  | 0, _, _, _, _, _, _, _, _ => none
  | k + 1, x0, x1, x7, x116000, x116001, x116002, x116003, x116005 => if x7 < x1 then (if x7 = (wrap64 (x0)) then (tattlerref19_New.l0 k x0 x1 (wrap64 (x7 + 1)) x116000 x116001 x116002 x116003 x116005) else (if x116002.length < 140737488355328 then (tattlerref19_New.l0 k x0 x1 (wrap64 (x7 + 1)) x116000 x116001 (x116002 ++ [(x7) % 256]) x116003 x116005) else (none))) else (some (x116000, x116001, x116002, x116003, ([] : List (S88)), x116005, 0))
end
def tattlerref19_New.f (k : Nat) (a0 : Int) (a1 : Int) : Option (Int × Int × List Int × Int × (List (S88)) × Int × Int) := if a1 < 1 then (tattlerref19_New.j0 k a0 a1 true) else (if a1 > 64 then (tattlerref19_New.j0 k a0 a1 true) else (tattlerref19_New.j0 k a0 a1 (decide ((wrap64 (a0)) ≥ a1))))
theorem tattlerref19_New.mono_l : ∀ k, (∀ y0 y1 y2, LeO (tattlerref19_New.j0 k y0 y1 y2) (tattlerref19_New.j0 (k + 1) y0 y1 y2)) ∧ (∀ y0 y1 y2 y3 y4 y5 y6 y7, LeO (tattlerref19_New.l0 k y0 y1 y2 y3 y4 y5 y6 y7) (tattlerref19_New.l0 (k + 1) y0 y1 y2 y3 y4 y5 y6 y7))
  | 0 => ⟨fun _ _ _ r h => by simp [tattlerref19_New.j0] at h, fun _ _ _ _ _ _ _ _ r h => by simp [tattlerref19_New.l0] at h⟩
  | k + 1 => by
    obtain ⟨ih0, ih1⟩ := tattlerref19_New.mono_l k
    refine ⟨?_, ?_⟩
    · intro y0 y1 y2
      unfold tattlerref19_New.j0
      repeat' first
      | (with_reducible exact ih0 _ _ _)
      | (with_reducible exact ih1 _ _ _ _ _ _ _ _)
      | (with_reducible exact LeO.refl _)
      | (with_reducible exact LeO.none _)
      | (with_reducible refine LeO.ite ?_ ?_)
      | (with_reducible refine LeO.bind ?_ (fun _ => ?_))
      | exact ih0 _ _ _
      | exact ih1 _ _ _ _ _ _ _ _
      | exact LeO.none _
      | refine LeO.ite ?_ ?_
      | refine LeO.bind ?_ (fun _ => ?_)
    · intro y0 y1 y2 y3 y4 y5 y6 y7
      unfold tattlerref19_New.l0
      repeat' first
      | (with_reducible exact ih0 _ _ _)
      | (with_reducible exact ih1 _ _ _ _ _ _ _ _)
      | (with_reducible exact LeO.refl _)
      | (with_reducible exact LeO.none _)
      | (with_reducible refine LeO.ite ?_ ?_)
      | (with_reducible refine LeO.bind ?_ (fun _ => ?_))
      | exact ih0 _ _ _
      | exact ih1 _ _ _ _ _ _ _ _
      | exact LeO.none _
      | refine LeO.ite ?_ ?_
      | refine LeO.bind ?_ (fun _ => ?_)
theorem tattlerref19_New.mono : ∀ a0 a1 k, LeO (tattlerref19_New.f k a0 a1) (tattlerref19_New.f (k + 1) a0 a1) := by
  intro a0 a1 k
  obtain ⟨ih0, ih1⟩ := tattlerref19_New.mono_l k
  unfold tattlerref19_New.f
  repeat' first
      | (with_reducible exact ih0 _ _ _)
      | (with_reducible exact ih1 _ _ _ _ _ _ _ _)
      | (with_reducible exact LeO.refl _)
      | (with_reducible exact LeO.none _)
      | (with_reducible refine LeO.ite ?_ ?_)
      | (with_reducible refine LeO.bind ?_ (fun _ => ?_))
      | exact ih0 _ _ _
      | exact ih1 _ _ _ _ _ _ _ _
      | exact LeO.none _
      | refine LeO.ite ?_ ?_
      | refine LeO.bind ?_ (fun _ => ?_)
set_option maxHeartbeats 8000000 in
set_option maxRecDepth 100000 in
theorem tattlerref19_New.calls (k : Nat) (a0 : Int) (a1 : Int) (r1 : Int) (r2 : Int) (r3 : List Int) (r4 : Int) (r5 : List (S88)) (r6 : Int) (r7 : Int) (w : World) (h : tattlerref19_New.f k a0 a1 = some (r1, r2, r3, r4, r5, r6, r7)) :
    Calls Try.prog 11 #[.int .u8 a0, .int .i64 a1] w fun e w' => ∃ v2_ v4_ : Value, e = .returned (.tuple #[.agg #[.int .u8 r1, .int .i64 r2, v2_, .int .i64 r4, v4_, .int .i64 r6], .int .i64 r7]) ∧ Kd.R (Kd.int .u8) 5 w' w.heap.size (fun _ => True) v2_ r3 ∧ Kd.R k88 88 w' w.heap.size (fun _ => True) v4_ r5 ∧ Below w.heap.size w w' := by
  have hu39 := Try.underlying39
  have HB := Aside0.mk (Below.refl w.heap.size w)
  have H : (if a1 < 1 then (tattlerref19_New.j0 k a0 a1 true) else (if a1 > 64 then (tattlerref19_New.j0 k a0 a1 true) else (tattlerref19_New.j0 k a0 a1 (decide ((wrap64 (a0)) ≥ a1))))) = some (r1, r2, r3, r4, r5, r6, r7) := h
  clear h
  have HC3 := Aside0.mk H
  clear H
  go_enter Try.func11, Try.ntmps11
  go_upto_region 1 with (first | ((with_reducible refine gate_dst (N := 4) rfl ?_); refine box_event ?hg (N := 4) ?hd (cs := #[.int .u8 0, .int .i64 0, .slice none 0 0, .int .i64 0, .slice none 0 0, .int .i64 0]) (t := 39) ?hr ?_; (case hd => rfl); (case hg => rfl); (case hr => first | (go_simp; done) | (go_simp; rfl)); intro gb114 hg w4 hbox hb; have n0_ := Aside0.mk (below_step (by repeat (first | (with_reducible first | exact HB.out | apply below_alloc | apply pw_below_drewN | apply below_drew1) | exact HB.out)) hb); have n1_ := Aside0.mk (hbox); have n2_ := Aside0.mk ((by rw [hg]; exact (below_size (by repeat (first | (with_reducible first | exact HB.out | apply below_alloc | apply pw_below_drewN | apply below_drew1) | exact HB.out))) : w.heap.size ≤ gb114)); have n3_ := Aside0.mk ((by rw [hg]; exact (below_size (by repeat (first | (with_reducible first | exact HB.out | apply below_alloc | apply pw_below_drewN | apply below_drew1) | exact HB.out))) : w.heap.size ≤ gb114)); clear HB; have HB := n0_; have BK114 := n1_; have GW114 := n2_; have GE114 := n3_; clear n0_ n1_ n2_ n3_; clear hb hbox hg))
  (try simp only [Act.put, List.setIfInBounds_toArray, List.set_cons_zero, List.set_cons_succ])
  go_cut [19] (fun v19 wc => ∃ (kq : Nat) (x19_2 : Bool), v19 = .bool x19_2 ∧ Aside0 (tattlerref19_New.j0 kq a0 a1 x19_2 = some (r1, r2, r3, r4, r5, r6, r7)) ∧ Aside0 (kq ≤ k) ∧ Aside0 (wc.heap[gb114]? = some (.cells #[.int .u8 0, .int .i64 0, (.slice none 0 0), .int .i64 0, (.slice none 0 0), .int .i64 0] 39 (0, 0))) ∧ Aside0 (Below w.heap.size w wc))
  case first =>
    have H := HC3.out
    clear HC3
    by_cases c5 : a1 < 1
    · rw [if_pos c5] at H
      have c5b0 : decide (a1 < 1) = true := decide_eq_true c5
      clear c5
      (first | rw [c5b0] | (simp only [i64_w, i32_w]; rw [c5b0]) | skip)
      have H' := Aside0.mk H
      clear H
      go_wp2
      go_meet
      case rel => exact ⟨_, (true), (by first | rfl | (simp; done) | (simp [*]; done)), H', ⟨by first | omega | exact Nat.le_refl _⟩, ⟨by (with_reducible repeat (first | refine blk_drewN ?_ _ | refine blk_drew ?_ | refine blk_alloc ?_ _)); exact BK114.out⟩, ⟨by repeat (first | (with_reducible first | exact HB.out | apply below_alloc | apply pw_below_drewN | apply below_drew1 | refine below_set ?_ GE114.out) | exact HB.out)⟩⟩
    · rw [if_neg c5] at H
      have c5b0 : decide (a1 < 1) = false := decide_eq_false c5
      clear c5
      (first | rw [c5b0] | (simp only [i64_w, i32_w]; rw [c5b0]) | skip)
      by_cases c6 : a1 > 64
      · rw [if_pos c6] at H
        have c6b0 : decide (64 < a1) = true := decide_eq_true c6
        clear c6
        have H' := Aside0.mk H
        clear H
        go_wp2
        go_meet
        case rel => exact ⟨_, (true), (by first | rfl | (simp; done) | (simp [*]; done)), H', ⟨by first | omega | exact Nat.le_refl _⟩, ⟨by (with_reducible repeat (first | refine blk_drewN ?_ _ | refine blk_drew ?_ | refine blk_alloc ?_ _)); exact BK114.out⟩, ⟨by repeat (first | (with_reducible first | exact HB.out | apply below_alloc | apply pw_below_drewN | apply below_drew1 | refine below_set ?_ GE114.out) | exact HB.out)⟩⟩
      · rw [if_neg c6] at H
        have c6b0 : decide (64 < a1) = false := decide_eq_false c6
        clear c6
        have H' := Aside0.mk H
        clear H
        go_wp2
        go_meet
        case rel => exact ⟨_, (decide ((wrap64 (a0)) ≥ a1)), (by first | rfl | (simp; done) | (simp [*]; done)), H', ⟨by first | omega | exact Nat.le_refl _⟩, ⟨by (with_reducible repeat (first | refine blk_drewN ?_ _ | refine blk_drew ?_ | refine blk_alloc ?_ _)); exact BK114.out⟩, ⟨by repeat (first | (with_reducible first | exact HB.out | apply below_alloc | apply pw_below_drewN | apply below_drew1 | refine below_set ?_ GE114.out) | exact HB.out)⟩⟩
  case rest =>
    clear HC3
    try clear c1
    try clear p2
    try clear c5
    try clear c5b0
    try clear c6
    try clear c6b0
    try clear p6
    obtain ⟨kq, x19_2, rfl, HA, HJ2, BK114, HB⟩ := hcut
    cases kq with
    | zero => exact absurd HA.out (by simp [tattlerref19_New.j0])
    | succ kj2 =>
      have H := HA.out
      clear HA
      simp only [tattlerref19_New.j0] at H
      by_cases c7 : x19_2 = true
      · subst c7
        have H1 : (some (0, 0, ([] : List Int), 0, ([] : List (S88)), 0, 1)) = some (r1, r2, r3, r4, r5, r6, r7) := by rw [if_pos rfl] at H; exact H
        clear H
        have H := H1
        clear H1
        simp only [Option.some.injEq, Prod.mk.injEq] at H
        obtain ⟨rfl, rfl, rfl, rfl, rfl, rfl, rfl⟩ := H
        have hcz8_0 : wc.cell? ⟨gb114, 0, none⟩ = some (.int .u8 0) := (blk_cell BK114.out 0).trans rfl
        have hcz8_1 : wc.cell? ⟨gb114, 1, none⟩ = some (.int .i64 0) := (blk_cell BK114.out 1).trans rfl
        have hcz8_2 : wc.cell? ⟨gb114, 2, none⟩ = some (.slice none 0 0) := (blk_cell BK114.out 2).trans rfl
        have hcz8_3 : wc.cell? ⟨gb114, 3, none⟩ = some (.int .i64 0) := (blk_cell BK114.out 3).trans rfl
        have hcz8_4 : wc.cell? ⟨gb114, 4, none⟩ = some (.slice none 0 0) := (blk_cell BK114.out 4).trans rfl
        have hcz8_5 : wc.cell? ⟨gb114, 5, none⟩ = some (.int .i64 0) := (blk_cell BK114.out 5).trans rfl
        have hfz8_0 := blk_frozen BK114.out 0
        have hfz8_1 := blk_frozen BK114.out 1
        have hfz8_2 := blk_frozen BK114.out 2
        have hfz8_3 := blk_frozen BK114.out 3
        have hfz8_4 := blk_frozen BK114.out 4
        have hfz8_5 := blk_frozen BK114.out 5
        go_wp2
        refine bodyPost_ret (results_ct rfl _ _ gb114 39 #[.int .u8 0, .int .i64 0, .slice none 0 0, .int .i64 0, .slice none 0 0, .int .i64 0] (0, 0) _ rfl (by (with_reducible repeat (first | refine blk_drewN ?_ _ | refine blk_drew ?_ | refine blk_alloc ?_ _)); refine blk_put (cs := #[.int .u8 0, .int .i64 0, .slice none 0 0, .int .i64 0, .slice none 0 0, .int .i64 0]) ?_ 5 _ rfl; (with_reducible repeat (first | refine blk_drewN ?_ _ | refine blk_drew ?_ | refine blk_alloc ?_ _)); refine blk_put (cs := #[.int .u8 0, .int .i64 0, .slice none 0 0, .int .i64 0, .slice none 0 0, .int .i64 0]) ?_ 4 _ rfl; (with_reducible repeat (first | refine blk_drewN ?_ _ | refine blk_drew ?_ | refine blk_alloc ?_ _)); refine blk_put (cs := #[.int .u8 0, .int .i64 0, .slice none 0 0, .int .i64 0, .slice none 0 0, .int .i64 0]) ?_ 3 _ rfl; (with_reducible repeat (first | refine blk_drewN ?_ _ | refine blk_drew ?_ | refine blk_alloc ?_ _)); refine blk_put (cs := #[.int .u8 0, .int .i64 0, .slice none 0 0, .int .i64 0, .slice none 0 0, .int .i64 0]) ?_ 2 _ rfl; (with_reducible repeat (first | refine blk_drewN ?_ _ | refine blk_drew ?_ | refine blk_alloc ?_ _)); refine blk_put (cs := #[.int .u8 0, .int .i64 0, .slice none 0 0, .int .i64 0, .slice none 0 0, .int .i64 0]) ?_ 1 _ rfl; (with_reducible repeat (first | refine blk_drewN ?_ _ | refine blk_drew ?_ | refine blk_alloc ?_ _)); refine blk_put (cs := #[.int .u8 0, .int .i64 0, .slice none 0 0, .int .i64 0, .slice none 0 0, .int .i64 0]) ?_ 0 _ rfl; (with_reducible repeat (first | refine blk_drewN ?_ _ | refine blk_drew ?_ | refine blk_alloc ?_ _)); exact BK114.out) Try.underlying39 rfl (by kernel_rfl)) rfl ?_
        exact ⟨_, _, by first | rfl | (simp [errW_none, errW_some] <;> rfl) | (simp [*, errW_none, errW_some] <;> rfl), by first | exact Kd.R_nil _ _ _ _ _ | exact Kd.N_nil _ _ _ _ _ | exact Kd.V_nil _ _ _ _ _ | exact Kd.Q_nil _ _ _ _ _ | exact Kd.S_nil _ _ _ _ _, by first | exact Kd.R_nil _ _ _ _ _ | exact Kd.N_nil _ _ _ _ _ | exact Kd.V_nil _ _ _ _ _ | exact Kd.Q_nil _ _ _ _ _ | exact Kd.S_nil _ _ _ _ _, by repeat (first | (with_reducible first | exact HB.out | apply below_alloc | apply pw_below_drewN | apply below_drew1 | refine below_set ?_ GE114.out) | exact HB.out)⟩
      · replace c7 := Bool.eq_false_iff.mpr c7
        subst c7
        have H1 : (tattlerref19_New.l0 kj2 a0 a1 0 a0 a1 ([] : List Int) 0 0) = some (r1, r2, r3, r4, r5, r6, r7) := by rw [if_neg (show ¬ (false = true) by decide)] at H; exact H
        clear H
        have H := H1
        clear H1
        have H' := Aside0.mk H
        clear H
        go_wp2_with (first | ((with_reducible refine gate_dst (N := 6) rfl ?_); refine box_event ?hg (N := 6) ?hd (cs := #[.int .u8 0, .int .i64 0, .slice none 0 0, .int .i64 0, .slice none 0 0, .int .i64 0]) (t := 39) ?hr ?_; (case hd => rfl); (case hg => rfl); (case hr => first | (go_simp; done) | (go_simp; rfl)); intro gb115 hg w9 hbox hb; have n0_ := Aside0.mk (blk_below (g := gb114) (o := .cells #[.int .u8 0, .int .i64 0, .slice none 0 0, .int .i64 0, .slice none 0 0, .int .i64 0] 39 (0, 0)) (by (with_reducible repeat (first | refine blk_drewN ?_ _ | refine blk_drew ?_ | refine blk_alloc ?_ _)); exact BK114.out) hb); have n1_ := Aside0.mk (below_step (by repeat (first | (with_reducible first | exact HB.out | apply below_alloc | apply pw_below_drewN | apply below_drew1 | refine below_set ?_ GE114.out) | exact HB.out)) hb); have n2_ := Aside0.mk (hbox); have n3_ := Aside0.mk ((by rw [hg]; exact (below_size (by repeat (first | (with_reducible first | exact HB.out | apply below_alloc | apply pw_below_drewN | apply below_drew1 | refine below_set ?_ GE114.out) | exact HB.out))) : w.heap.size ≤ gb115)); have n4_ := Aside0.mk ((by rw [hg]; exact (below_size (by repeat (first | (with_reducible first | exact HB.out | apply below_alloc | apply pw_below_drewN | apply below_drew1 | refine below_set ?_ GE114.out) | exact HB.out))) : w.heap.size ≤ gb115)); have n5_ := Aside0.mk ((by rw [hg]; exact Nat.ne_of_lt (blk_lt (g := gb114) (o := .cells #[.int .u8 0, .int .i64 0, .slice none 0 0, .int .i64 0, .slice none 0 0, .int .i64 0] 39 (0, 0)) (by (with_reducible repeat (first | refine blk_drewN ?_ _ | refine blk_drew ?_ | refine blk_alloc ?_ _)); exact BK114.out)) : gb114 ≠ gb115)); have n6_ := Aside0.mk ((by rw [hg]; exact Nat.ne_of_gt (blk_lt (g := gb114) (o := .cells #[.int .u8 0, .int .i64 0, .slice none 0 0, .int .i64 0, .slice none 0 0, .int .i64 0] 39 (0, 0)) (by (with_reducible repeat (first | refine blk_drewN ?_ _ | refine blk_drew ?_ | refine blk_alloc ?_ _)); exact BK114.out)) : gb115 ≠ gb114)); clear BK114; clear HB; have BK114 := n0_; have HB := n1_; have BK115 := n2_; have GW115 := n3_; have GE115 := n4_; have NB114_115 := n5_; have NB115_114 := n6_; clear n0_ n1_ n2_ n3_ n4_ n5_ n6_; clear hb hbox hg; have hnb10 := NB115_114.out; have hnc10 := NB114_115.out; have hcz11_0 : w9.cell? ⟨gb115, 0, none⟩ = some (.int .u8 0) := (blk_cell BK115.out 0).trans rfl; have hcz11_1 : w9.cell? ⟨gb115, 1, none⟩ = some (.int .i64 0) := (blk_cell BK115.out 1).trans rfl; have hcz11_2 : w9.cell? ⟨gb115, 2, none⟩ = some (.slice none 0 0) := (blk_cell BK115.out 2).trans rfl; have hcz11_3 : w9.cell? ⟨gb115, 3, none⟩ = some (.int .i64 0) := (blk_cell BK115.out 3).trans rfl; have hcz11_4 : w9.cell? ⟨gb115, 4, none⟩ = some (.slice none 0 0) := (blk_cell BK115.out 4).trans rfl; have hcz11_5 : w9.cell? ⟨gb115, 5, none⟩ = some (.int .i64 0) := (blk_cell BK115.out 5).trans rfl; have hfz11_0 := blk_frozen BK115.out 0; have hfz11_1 := blk_frozen BK115.out 1; have hfz11_2 := blk_frozen BK115.out 2; have hfz11_3 := blk_frozen BK115.out 3; have hfz11_4 := blk_frozen BK115.out 4; have hfz11_5 := blk_frozen BK115.out 5))
        go_loopg [7] kj2 (fun kq v7 w' => ∃ (x7_2 : Int) (x116002_2 : List Int) (u116002 : Value), v7 = .int .i64 x7_2 ∧ Aside0 (tattlerref19_New.l0 kq a0 a1 x7_2 a0 a1 x116002_2 0 0 = some (r1, r2, r3, r4, r5, r6, r7)) ∧ Aside0 (kq ≤ kj2) ∧ Aside0 (Kd.R (Kd.int .u8) 5 w' w.heap.size (fun _ => True) u116002 x116002_2) ∧ Aside0 (w'.heap[gb114]? = some (.cells #[.int .u8 0, .int .i64 0, (.slice none 0 0), .int .i64 0, (.slice none 0 0), .int .i64 0] 39 (0, 0))) ∧ Aside0 (w'.heap[gb115]? = some (.cells #[.int .u8 a0, .int .i64 a1, u116002, .int .i64 0, (.slice none 0 0), .int .i64 0] 39 (0, 0))) ∧ Aside0 (Below w.heap.size w w'))
        case atStart => exact ⟨(0), (([] : List Int)), (.slice none 0 0), (by first | rfl | (simp; done) | (simp [*]; done)), H', ⟨Nat.le_refl _⟩, ⟨by first | exact Kd.R_nil _ _ _ _ _ | exact Kd.N_nil _ _ _ _ _ | exact Kd.V_nil _ _ _ _ _ | exact Kd.Q_nil _ _ _ _ _ | exact Kd.S_nil _ _ _ _ _⟩, ⟨by (with_reducible repeat (first | refine blk_drewN ?_ _ | refine blk_drew ?_ | refine blk_alloc ?_ _)); refine blk_far ?_ NB114_115.out _; (with_reducible repeat (first | refine blk_drewN ?_ _ | refine blk_drew ?_ | refine blk_alloc ?_ _)); refine blk_far ?_ NB114_115.out _; (with_reducible repeat (first | refine blk_drewN ?_ _ | refine blk_drew ?_ | refine blk_alloc ?_ _)); refine blk_far ?_ NB114_115.out _; (with_reducible repeat (first | refine blk_drewN ?_ _ | refine blk_drew ?_ | refine blk_alloc ?_ _)); refine blk_far ?_ NB114_115.out _; (with_reducible repeat (first | refine blk_drewN ?_ _ | refine blk_drew ?_ | refine blk_alloc ?_ _)); refine blk_far ?_ NB114_115.out _; (with_reducible repeat (first | refine blk_drewN ?_ _ | refine blk_drew ?_ | refine blk_alloc ?_ _)); refine blk_far ?_ NB114_115.out _; (with_reducible repeat (first | refine blk_drewN ?_ _ | refine blk_drew ?_ | refine blk_alloc ?_ _)); exact BK114.out⟩, ⟨by (with_reducible repeat (first | refine blk_drewN ?_ _ | refine blk_drew ?_ | refine blk_alloc ?_ _)); refine blk_put (cs := #[.int .u8 a0, .int .i64 a1, .slice none 0 0, .int .i64 0, .slice none 0 0, .int .i64 0]) ?_ 5 _ rfl; (with_reducible repeat (first | refine blk_drewN ?_ _ | refine blk_drew ?_ | refine blk_alloc ?_ _)); refine blk_put (cs := #[.int .u8 a0, .int .i64 a1, .slice none 0 0, .int .i64 0, .slice none 0 0, .int .i64 0]) ?_ 4 _ rfl; (with_reducible repeat (first | refine blk_drewN ?_ _ | refine blk_drew ?_ | refine blk_alloc ?_ _)); refine blk_put (cs := #[.int .u8 a0, .int .i64 a1, .slice none 0 0, .int .i64 0, .slice none 0 0, .int .i64 0]) ?_ 3 _ rfl; (with_reducible repeat (first | refine blk_drewN ?_ _ | refine blk_drew ?_ | refine blk_alloc ?_ _)); refine blk_put (cs := #[.int .u8 a0, .int .i64 a1, .slice none 0 0, .int .i64 0, .slice none 0 0, .int .i64 0]) ?_ 2 _ rfl; (with_reducible repeat (first | refine blk_drewN ?_ _ | refine blk_drew ?_ | refine blk_alloc ?_ _)); refine blk_put (cs := #[.int .u8 a0, .int .i64 0, .slice none 0 0, .int .i64 0, .slice none 0 0, .int .i64 0]) ?_ 1 _ rfl; (with_reducible repeat (first | refine blk_drewN ?_ _ | refine blk_drew ?_ | refine blk_alloc ?_ _)); refine blk_put (cs := #[.int .u8 0, .int .i64 0, .slice none 0 0, .int .i64 0, .slice none 0 0, .int .i64 0]) ?_ 0 _ rfl; (with_reducible repeat (first | refine blk_drewN ?_ _ | refine blk_drew ?_ | refine blk_alloc ?_ _)); exact BK115.out⟩, ⟨by repeat (first | (with_reducible first | exact HB.out | apply below_alloc | apply pw_below_drewN | apply below_drew1 | refine below_set ?_ GE114.out | refine below_set ?_ GE115.out) | exact HB.out)⟩⟩
        case round =>
          clear H'
          try clear c1
          try clear p2
          try clear c5
          try clear c5b0
          try clear c6
          try clear c6b0
          try clear p6
          try clear c7
          try clear c10
          try clear c11
          try clear hcz11_0
          try clear hcz11_1
          try clear hcz11_2
          try clear hcz11_3
          try clear hcz11_4
          try clear hcz11_5
          try clear hcz8_0
          try clear hcz8_1
          try clear hcz8_2
          try clear hcz8_3
          try clear hcz8_4
          try clear hcz8_5
          try clear hfz11_0
          try clear hfz11_1
          try clear hfz11_2
          try clear hfz11_3
          try clear hfz11_4
          try clear hfz11_5
          try clear hfz8_0
          try clear hfz8_1
          try clear hfz8_2
          try clear hfz8_3
          try clear hfz8_4
          try clear hfz8_5
          try clear p2
          try clear p6
          obtain ⟨x7_2, x116002_2, u116002, rfl, HA, HK2, HO_116002, BK114, BK115, HB⟩ := hrel
          cases gk with
          | zero => exact absurd HA.out (by simp [tattlerref19_New.l0])
          | succ k2 =>
            have H := HA.out
            clear HA
            simp only [tattlerref19_New.l0] at H
            by_cases c12 : x7_2 < a1
            · rw [if_pos c12] at H
              have c12b0 : decide (x7_2 < a1) = true := decide_eq_true c12
              clear c12
              by_cases c13 : x7_2 = (wrap64 (a0))
              · rw [if_pos c13] at H
                have c13b0 : (x7_2 == (wrap64 (a0))) = true := beq_iff_eq.mpr c13
                have c13b1 : (x7_2 != (wrap64 (a0))) = false := bne_eq_false_iff_eq.mpr c13
                clear c13
                have H' := Aside0.mk H
                clear H
                go_wp2
                go_roundg k2
                case measure => have := HJ2.out; have := HK2.out; omega
                case rel => exact ⟨(wrap64 (x7_2 + 1)), (x116002_2), (u116002), (by first | rfl | (simp; done) | (simp [*]; done)), H', ⟨by have := HJ2.out; have := HK2.out; omega⟩, ⟨by (with_reducible repeat (first | apply Kd.R_alloc | apply Kd.R_drewN | apply Kd.R_drew)); exact HO_116002.out⟩, ⟨by (with_reducible repeat (first | refine blk_drewN ?_ _ | refine blk_drew ?_ | refine blk_alloc ?_ _)); exact BK114.out⟩, ⟨by (with_reducible repeat (first | refine blk_drewN ?_ _ | refine blk_drew ?_ | refine blk_alloc ?_ _)); exact BK115.out⟩, ⟨by repeat (first | (with_reducible first | exact HB.out | apply below_alloc | apply pw_below_drewN | apply below_drew1 | refine below_set ?_ GE114.out | refine below_set ?_ GE115.out) | exact HB.out)⟩⟩
              · rw [if_neg c13] at H
                have c13b0 : (x7_2 == (wrap64 (a0))) = false := beq_eq_false_iff_ne.mpr c13
                have c13b1 : (x7_2 != (wrap64 (a0))) = true := bne_iff_ne.mpr c13
                by_cases c14 : x116002_2.length < 140737488355328
                · rw [if_pos c14] at H
                  have LMc14 := Aside0.mk c14
                  clear c14
                  obtain ⟨y116, hy116⟩ : ∃ y_ : List Int, y_ = (x116002_2 ++ [(x7_2) % 256]) := ⟨_, rfl⟩
                  replace H : (tattlerref19_New.l0 k2 a0 a1 (wrap64 (x7_2 + 1)) a0 a1 y116 0 0) = some (r1, r2, r3, r4, r5, r6, r7) := by first | (rw [hy116]; with_reducible exact H) | (have H2_ := (Option.bind_some _ _).symm.trans H; rw [hy116]; with_reducible exact H2_) | (have H2_ := (Option.bind_some _ _).symm.trans H; with_reducible exact H2_) | with_reducible exact H | (rw [hy116]; exact H) | exact H
                  have Ny116 := Aside0.mk hy116
                  clear hy116
                  have H' := Aside0.mk H
                  clear H
                  have hnb15 := NB115_114.out
                  have hnc15 := NB114_115.out
                  have hcz16_0 : wr.cell? ⟨gb115, 0, none⟩ = some (.int .u8 a0) := (blk_cell BK115.out 0).trans rfl
                  have hcz16_1 : wr.cell? ⟨gb115, 1, none⟩ = some (.int .i64 a1) := (blk_cell BK115.out 1).trans rfl
                  have hcz16_2 : wr.cell? ⟨gb115, 2, none⟩ = some (u116002) := (blk_cell BK115.out 2).trans rfl
                  have hcz16_3 : wr.cell? ⟨gb115, 3, none⟩ = some (.int .i64 0) := (blk_cell BK115.out 3).trans rfl
                  have hcz16_4 : wr.cell? ⟨gb115, 4, none⟩ = some (.slice none 0 0) := (blk_cell BK115.out 4).trans rfl
                  have hcz16_5 : wr.cell? ⟨gb115, 5, none⟩ = some (.int .i64 0) := (blk_cell BK115.out 5).trans rfl
                  have hfz16_0 := blk_frozen BK115.out 0
                  have hfz16_1 := blk_frozen BK115.out 1
                  have hfz16_2 := blk_frozen BK115.out 2
                  have hfz16_3 := blk_frozen BK115.out 3
                  have hfz16_4 := blk_frozen BK115.out 4
                  have hfz16_5 := blk_frozen BK115.out 5
                  go_wp2_with (first | ((with_reducible refine gate_builtin (b := .append) (xs := #[.tmp 34, .tmp 37]) rfl ?_); at_builtin; refine Kd.R_append (Kd.int .u8) (w0 := w) w.heap.size rfl (.tmp 34) (.tmp 37) 28 5 (.int .u8 0) 1 rfl Try.underlying28 info5 rfl (by decide) (by omega) u116002 x116002_2 ((x7_2) % 256) [.int .u8 ((x7_2) % 256)] (fun _ => True) (fun _ => False) rfl rfl ?aP (fun _ hk => hk.elim) ?aF ?aO ?aB ?aS ?aL ?_; (case aP => exact rfl); (case aB => exact (by repeat (first | (with_reducible first | exact HB.out | apply below_alloc | apply pw_below_drewN | apply below_drew1 | refine below_set ?_ GE114.out | refine below_set ?_ GE115.out) | exact HB.out))); (case aF => exact (fun _ _ => trivial)); (case aO => exact (by (with_reducible repeat (first | apply Kd.R_alloc | apply Kd.R_drewN | apply Kd.R_drew)); exact HO_116002.out)); (case aS => exact (below_size (by repeat (first | (with_reducible first | exact HB.out | apply below_alloc | apply pw_below_drewN | apply below_drew1 | refine below_set ?_ GE114.out | refine below_set ?_ GE115.out) | exact HB.out)))); (case aL => have := LMc14.out; omega); intro v117 w17 ho hb hg hat; rw [← Ny116.out] at ho; have n0_ := Aside0.mk (blk_grown (g := gb114) (o := .cells #[.int .u8 0, .int .i64 0, .slice none 0 0, .int .i64 0, .slice none 0 0, .int .i64 0] 39 (0, 0)) (by (with_reducible repeat (first | refine blk_drewN ?_ _ | refine blk_drew ?_ | refine blk_alloc ?_ _)); exact BK114.out) hg (Kd.R_ne HO_116002.out BK114.out (by decide))); have n1_ := Aside0.mk (blk_grown (g := gb115) (o := .cells #[.int .u8 a0, .int .i64 a1, u116002, .int .i64 0, .slice none 0 0, .int .i64 0] 39 (0, 0)) (by (with_reducible repeat (first | refine blk_drewN ?_ _ | refine blk_drew ?_ | refine blk_alloc ?_ _)); exact BK115.out) hg (Kd.R_ne HO_116002.out BK115.out (by decide))); have n2_ := Aside0.mk (hb); have n3_ := Aside0.mk (ho); clear BK114; clear BK115; clear HB; clear HO_116002; have BK114 := n0_; have BK115 := n1_; have HB := n2_; have HO118 := n3_; clear n0_ n1_ n2_ n3_; clear ho hb hg hat; obtain ⟨Ao18, co18, eo18⟩ := Kd.R_slice HO118.out; subst eo18; have hcz19_0 : w17.cell? ⟨gb115, 0, none⟩ = some (.int .u8 a0) := (blk_cell BK115.out 0).trans rfl; have hcz19_1 : w17.cell? ⟨gb115, 1, none⟩ = some (.int .i64 a1) := (blk_cell BK115.out 1).trans rfl; have hcz19_2 : w17.cell? ⟨gb115, 2, none⟩ = some (u116002) := (blk_cell BK115.out 2).trans rfl; have hcz19_3 : w17.cell? ⟨gb115, 3, none⟩ = some (.int .i64 0) := (blk_cell BK115.out 3).trans rfl; have hcz19_4 : w17.cell? ⟨gb115, 4, none⟩ = some (.slice none 0 0) := (blk_cell BK115.out 4).trans rfl; have hcz19_5 : w17.cell? ⟨gb115, 5, none⟩ = some (.int .i64 0) := (blk_cell BK115.out 5).trans rfl; have hfz19_0 := blk_frozen BK115.out 0; have hfz19_1 := blk_frozen BK115.out 1; have hfz19_2 := blk_frozen BK115.out 2; have hfz19_3 := blk_frozen BK115.out 3; have hfz19_4 := blk_frozen BK115.out 4; have hfz19_5 := blk_frozen BK115.out 5))
                  go_roundg k2
                  case measure => have := HJ2.out; have := HK2.out; omega
                  case rel => exact ⟨(wrap64 (x7_2 + 1)), (y116), (.slice Ao18 y116.length co18), (by first | rfl | (simp; done) | (simp [*]; done)), H', ⟨by have := HJ2.out; have := HK2.out; omega⟩, ⟨by (with_reducible repeat (first | apply Kd.R_alloc | apply Kd.R_drewN | apply Kd.R_drew)); exact Kd.R_mono (Kd.R_far (p := ⟨gb115, 2, none⟩) (Kd.R_types HO118.out BK115.out (by decide)) (fun _ hk => hk.2) (.slice Ao18 y116.length co18)) (fun _ hk => trivial)⟩, ⟨by (with_reducible repeat (first | refine blk_drewN ?_ _ | refine blk_drew ?_ | refine blk_alloc ?_ _)); refine blk_far ?_ NB114_115.out _; (with_reducible repeat (first | refine blk_drewN ?_ _ | refine blk_drew ?_ | refine blk_alloc ?_ _)); exact BK114.out⟩, ⟨by (with_reducible repeat (first | refine blk_drewN ?_ _ | refine blk_drew ?_ | refine blk_alloc ?_ _)); refine blk_put (cs := #[.int .u8 a0, .int .i64 a1, u116002, .int .i64 0, .slice none 0 0, .int .i64 0]) ?_ 2 _ rfl; (with_reducible repeat (first | refine blk_drewN ?_ _ | refine blk_drew ?_ | refine blk_alloc ?_ _)); exact BK115.out⟩, ⟨by repeat (first | (with_reducible first | exact HB.out | apply below_alloc | apply pw_below_drewN | apply below_drew1 | refine below_set ?_ GE114.out | refine below_set ?_ GE115.out) | exact HB.out)⟩⟩
                · rw [if_neg c14] at H
                  exact absurd H (by simp)
            · rw [if_neg c12] at H
              have c12b0 : decide (x7_2 < a1) = false := decide_eq_false c12
              clear c12
              simp only [Option.some.injEq, Prod.mk.injEq] at H
              obtain ⟨rfl, rfl, rfl, rfl, rfl, rfl, rfl⟩ := H
              have hnb20 := NB115_114.out
              have hnc20 := NB114_115.out
              have hcz21_0 : wr.cell? ⟨gb115, 0, none⟩ = some (.int .u8 a0) := (blk_cell BK115.out 0).trans rfl
              have hcz21_1 : wr.cell? ⟨gb115, 1, none⟩ = some (.int .i64 a1) := (blk_cell BK115.out 1).trans rfl
              have hcz21_2 : wr.cell? ⟨gb115, 2, none⟩ = some (u116002) := (blk_cell BK115.out 2).trans rfl
              have hcz21_3 : wr.cell? ⟨gb115, 3, none⟩ = some (.int .i64 0) := (blk_cell BK115.out 3).trans rfl
              have hcz21_4 : wr.cell? ⟨gb115, 4, none⟩ = some (.slice none 0 0) := (blk_cell BK115.out 4).trans rfl
              have hcz21_5 : wr.cell? ⟨gb115, 5, none⟩ = some (.int .i64 0) := (blk_cell BK115.out 5).trans rfl
              have hfz21_0 := blk_frozen BK115.out 0
              have hfz21_1 := blk_frozen BK115.out 1
              have hfz21_2 := blk_frozen BK115.out 2
              have hfz21_3 := blk_frozen BK115.out 3
              have hfz21_4 := blk_frozen BK115.out 4
              have hfz21_5 := blk_frozen BK115.out 5
              have hcz22_0 : wr.cell? ⟨gb114, 0, none⟩ = some (.int .u8 0) := (blk_cell BK114.out 0).trans rfl
              have hcz22_1 : wr.cell? ⟨gb114, 1, none⟩ = some (.int .i64 0) := (blk_cell BK114.out 1).trans rfl
              have hcz22_2 : wr.cell? ⟨gb114, 2, none⟩ = some (.slice none 0 0) := (blk_cell BK114.out 2).trans rfl
              have hcz22_3 : wr.cell? ⟨gb114, 3, none⟩ = some (.int .i64 0) := (blk_cell BK114.out 3).trans rfl
              have hcz22_4 : wr.cell? ⟨gb114, 4, none⟩ = some (.slice none 0 0) := (blk_cell BK114.out 4).trans rfl
              have hcz22_5 : wr.cell? ⟨gb114, 5, none⟩ = some (.int .i64 0) := (blk_cell BK114.out 5).trans rfl
              have hfz22_0 := blk_frozen BK114.out 0
              have hfz22_1 := blk_frozen BK114.out 1
              have hfz22_2 := blk_frozen BK114.out 2
              have hfz22_3 := blk_frozen BK114.out 3
              have hfz22_4 := blk_frozen BK114.out 4
              have hfz22_5 := blk_frozen BK114.out 5
              obtain ⟨Ao23, co23, eo23⟩ := Kd.R_slice HO_116002.out
              subst eo23
              go_wp2
              refine bodyPost_ret (results_ct rfl _ _ gb114 39 #[.int .u8 a0, .int .i64 a1, .slice Ao23 x116002_2.length co23, .int .i64 0, .slice none 0 0, .int .i64 0] (0, 0) _ rfl (by (with_reducible repeat (first | refine blk_drewN ?_ _ | refine blk_drew ?_ | refine blk_alloc ?_ _)); refine blk_put (cs := #[.int .u8 a0, .int .i64 a1, .slice Ao23 x116002_2.length co23, .int .i64 0, .slice none 0 0, .int .i64 0]) ?_ 5 _ rfl; (with_reducible repeat (first | refine blk_drewN ?_ _ | refine blk_drew ?_ | refine blk_alloc ?_ _)); refine blk_put (cs := #[.int .u8 a0, .int .i64 a1, .slice Ao23 x116002_2.length co23, .int .i64 0, .slice none 0 0, .int .i64 0]) ?_ 4 _ rfl; (with_reducible repeat (first | refine blk_drewN ?_ _ | refine blk_drew ?_ | refine blk_alloc ?_ _)); refine blk_put (cs := #[.int .u8 a0, .int .i64 a1, .slice Ao23 x116002_2.length co23, .int .i64 0, .slice none 0 0, .int .i64 0]) ?_ 3 _ rfl; (with_reducible repeat (first | refine blk_drewN ?_ _ | refine blk_drew ?_ | refine blk_alloc ?_ _)); refine blk_put (cs := #[.int .u8 a0, .int .i64 a1, .slice none 0 0, .int .i64 0, .slice none 0 0, .int .i64 0]) ?_ 2 _ rfl; (with_reducible repeat (first | refine blk_drewN ?_ _ | refine blk_drew ?_ | refine blk_alloc ?_ _)); refine blk_put (cs := #[.int .u8 a0, .int .i64 0, .slice none 0 0, .int .i64 0, .slice none 0 0, .int .i64 0]) ?_ 1 _ rfl; (with_reducible repeat (first | refine blk_drewN ?_ _ | refine blk_drew ?_ | refine blk_alloc ?_ _)); refine blk_put (cs := #[.int .u8 0, .int .i64 0, .slice none 0 0, .int .i64 0, .slice none 0 0, .int .i64 0]) ?_ 0 _ rfl; (with_reducible repeat (first | refine blk_drewN ?_ _ | refine blk_drew ?_ | refine blk_alloc ?_ _)); exact BK114.out) Try.underlying39 rfl (by kernel_rfl)) rfl ?_
              exact ⟨_, _, by first | rfl | (simp [errW_none, errW_some] <;> rfl) | (simp [*, errW_none, errW_some] <;> rfl), by (with_reducible repeat (first | apply Kd.R_alloc | apply Kd.R_drewN | apply Kd.R_drew)); exact Kd.R_mono (Kd.R_far (p := ⟨gb114, 5, none⟩) (Kd.R_far (p := ⟨gb114, 4, none⟩) (Kd.R_far (p := ⟨gb114, 3, none⟩) (Kd.R_far (p := ⟨gb114, 2, none⟩) (Kd.R_far (p := ⟨gb114, 1, none⟩) (Kd.R_far (p := ⟨gb114, 0, none⟩) (Kd.R_types HO_116002.out BK114.out (by decide)) (fun _ hk => hk.2) (.int .u8 a0)) (fun _ hk => hk.2) (.int .i64 a1)) (fun _ hk => hk.2) (.slice Ao23 x116002_2.length co23)) (fun _ hk => hk.2) (.int .i64 0)) (fun _ hk => hk.2) (.slice none 0 0)) (fun _ hk => hk.2) (.int .i64 0)) (fun _ hk => trivial), by first | exact Kd.R_nil _ _ _ _ _ | exact Kd.N_nil _ _ _ _ _ | exact Kd.V_nil _ _ _ _ _ | exact Kd.Q_nil _ _ _ _ _ | exact Kd.S_nil _ _ _ _ _, by repeat (first | (with_reducible first | exact HB.out | apply below_alloc | apply pw_below_drewN | apply below_drew1 | refine below_set ?_ GE114.out | refine below_set ?_ GE115.out) | exact HB.out)⟩

/-! ### tattlerref01_half: function 40 -/
def tattlerref01_half.l0 : Nat → Int → Int → Int → Int → Option (Int)
  | 0, _, _, _, _ => none
  | k + 1, x0, x1, x5, x6 => if x6 < x1 then (tattlerref01_half.l0 k x0 x1 (IntKind.u64.wrap (Int.tdiv x5 2)) (wrap64 (x6 + 1))) else (some (Go.bits .xor .u64 x0 x5))
def tattlerref01_half.f (k : Nat) (a0 : Int) (a1 : Int) : Option (Int) := tattlerref01_half.l0 k a0 a1 a0 0
theorem tattlerref01_half.mono_l : ∀ k, (∀ y0 y1 y2 y3, LeO (tattlerref01_half.l0 k y0 y1 y2 y3) (tattlerref01_half.l0 (k + 1) y0 y1 y2 y3))
  | 0 => fun _ _ _ _ r h => by simp [tattlerref01_half.l0] at h
  | k + 1 => by
    have ih0 := tattlerref01_half.mono_l k
    · intro y0 y1 y2 y3
      unfold tattlerref01_half.l0
      repeat' first
      | (with_reducible exact ih0 _ _ _ _)
      | (with_reducible exact LeO.refl _)
      | (with_reducible exact LeO.none _)
      | (with_reducible refine LeO.ite ?_ ?_)
      | (with_reducible refine LeO.bind ?_ (fun _ => ?_))
      | exact ih0 _ _ _ _
      | exact LeO.none _
      | refine LeO.ite ?_ ?_
      | refine LeO.bind ?_ (fun _ => ?_)
theorem tattlerref01_half.mono : ∀ a0 a1 k, LeO (tattlerref01_half.f k a0 a1) (tattlerref01_half.f (k + 1) a0 a1) := by
  intro a0 a1 k
  have ih0 := tattlerref01_half.mono_l k
  unfold tattlerref01_half.f
  repeat' first
      | (with_reducible exact ih0 _ _ _ _)
      | (with_reducible exact LeO.refl _)
      | (with_reducible exact LeO.none _)
      | (with_reducible refine LeO.ite ?_ ?_)
      | (with_reducible refine LeO.bind ?_ (fun _ => ?_))
      | exact ih0 _ _ _ _
      | exact LeO.none _
      | refine LeO.ite ?_ ?_
      | refine LeO.bind ?_ (fun _ => ?_)
set_option maxHeartbeats 8000000 in
set_option maxRecDepth 100000 in
theorem tattlerref01_half.calls (k : Nat) (a0 : Int) (a1 : Int) (r : Int) (w : World) (h : tattlerref01_half.f k a0 a1 = some r) :
    Calls Try.prog 40 #[.int .u64 a0, .int .i64 a1] w fun e w' => e = .returned (.int .u64 r) ∧ Drawn0 w w' := by
  have H : (tattlerref01_half.l0 k a0 a1 a0 0) = some r := h
  clear h
  have H' := Aside0.mk H
  clear H
  go_enter Try.func40, Try.ntmps40
  go_wp2
  go_loopg [5, 6] k (fun kq v5 v6 w' => ∃ (x5_1 : Int) (x6_1 : Int), v5 = .int .u64 x5_1 ∧ v6 = .int .i64 x6_1 ∧ Aside0 (tattlerref01_half.l0 kq a0 a1 x5_1 x6_1 = some r) ∧ Aside0 (kq ≤ k) ∧ Drawn0 w w')
  case atStart => exact ⟨(a0), (0), (by first | rfl | (simp; done) | (simp [*]; done)), (by first | rfl | (simp; done) | (simp [*]; done)), H', ⟨Nat.le_refl _⟩, by repeat (first | exact Drawn0.refl _ | apply Drawn0.step)⟩
  case round =>
    clear H'
    try clear p2
    obtain ⟨x5_1, x6_1, rfl, rfl, HA, HK1, ⟨m1, rfl⟩⟩ := hrel
    cases gk with
    | zero => exact absurd HA.out (by simp [tattlerref01_half.l0])
    | succ k1 =>
      have H := HA.out
      clear HA
      simp only [tattlerref01_half.l0] at H
      by_cases c3 : x6_1 < a1
      · rw [if_pos c3] at H
        have c3b0 : decide (x6_1 < a1) = true := decide_eq_true c3
        clear c3
        have H' := Aside0.mk H
        clear H
        go_wp2
        go_roundg k1
        case measure => have := HK1.out; omega
        case rel => exact ⟨(IntKind.u64.wrap (Int.tdiv x5_1 2)), (wrap64 (x6_1 + 1)), (by first | rfl | (simp; done) | (simp [*]; done)), (by first | rfl | (simp; done) | (simp [*]; done)), H', ⟨by have := HK1.out; omega⟩, by repeat (first | exact Drawn0.refl _ | apply Drawn0.step)⟩
      · rw [if_neg c3] at H
        have c3b0 : decide (x6_1 < a1) = false := decide_eq_false c3
        clear c3
        obtain rfl := Option.some.inj H
        go_wp2
        go_ret
        exact ⟨by first | rfl | (simp; done) | (simp [*]; done), by repeat (first | exact Drawn0.refl _ | apply Drawn0.step)⟩

/-! ### tattlerref01_Mix: function 36 -/
def tattlerref01_Mix.f (k : Nat) (a0 : Int) : Option (Int) := (tattlerref01_half.f k a0 30).bind fun t142 => ((tattlerref01_half.f k (IntKind.u64.wrap (t142 * 13787848793156543929)) 27).bind fun t143 => ((tattlerref01_half.f k (IntKind.u64.wrap (t143 * 10723151780598845931)) 31).bind fun t144 => (some t144)))
theorem tattlerref01_Mix.mono : ∀ a0 k, LeO (tattlerref01_Mix.f k a0) (tattlerref01_Mix.f (k + 1) a0) := by
  intro a0 k
  unfold tattlerref01_Mix.f
  repeat' first
      | (with_reducible exact tattlerref01_half.mono _ _ _)
      | (with_reducible exact LeO.refl _)
      | (with_reducible exact LeO.none _)
      | (with_reducible refine LeO.ite ?_ ?_)
      | (with_reducible refine LeO.bind ?_ (fun _ => ?_))
      | exact tattlerref01_half.mono _ _ _
      | exact LeO.none _
      | refine LeO.ite ?_ ?_
      | refine LeO.bind ?_ (fun _ => ?_)
set_option maxHeartbeats 8000000 in
set_option maxRecDepth 100000 in
theorem tattlerref01_Mix.calls (k : Nat) (a0 : Int) (r : Int) (w : World) (h : tattlerref01_Mix.f k a0 = some r) :
    Calls Try.prog 36 #[.int .u64 a0] w fun e w' => e = .returned (.int .u64 r) ∧ Drawn0 w w' := by
  have H : ((tattlerref01_half.f k a0 30).bind fun t142 => ((tattlerref01_half.f k (IntKind.u64.wrap (t142 * 13787848793156543929)) 27).bind fun t143 => ((tattlerref01_half.f k (IntKind.u64.wrap (t143 * 10723151780598845931)) 31).bind fun t144 => (some t144)))) = some r := h
  clear h
  replace H := Option.bind_eq_some_iff.mp H
  obtain ⟨t142, A20, H⟩ := H
  replace H : ((tattlerref01_half.f k (IntKind.u64.wrap (t142 * 13787848793156543929)) 27).bind fun t143 => ((tattlerref01_half.f k (IntKind.u64.wrap (t143 * 10723151780598845931)) 31).bind fun t144 => (some t144))) = some r := H
  have A2 := Aside0.mk A20
  clear A20
  replace H := Option.bind_eq_some_iff.mp H
  obtain ⟨t143, A30, H⟩ := H
  replace H : ((tattlerref01_half.f k (IntKind.u64.wrap (t143 * 10723151780598845931)) 31).bind fun t144 => (some t144)) = some r := H
  have A3 := Aside0.mk A30
  clear A30
  replace H := Option.bind_eq_some_iff.mp H
  obtain ⟨t144, A40, H⟩ := H
  replace H : (some t144) = some r := H
  have A4 := Aside0.mk A40
  clear A40
  obtain rfl := Option.some.inj H
  go_enter Try.func36, Try.ntmps36
  go_wp2_with (first | ((with_reducible refine gate_callee (f := 40) rfl ?_); refine goesL_ (some 6) rfl rfl Try.func40 (by kernel_rfl) rfl #[.int .u64 a0, .int .i64 30] rfl (by (try simp only [List.map_toArray, List.map_cons, List.map_nil]); first | done | rfl | (simp only [List.length_drop, List.length_take]; rfl)) ?_; (with_reducible refine (tattlerref01_half.calls k a0 30 t142 _ A2.out).mono ?_); rintro e w' ⟨rfl, ⟨nd, rfl⟩⟩; refine ⟨_, rfl, ?_⟩) | ((with_reducible refine gate_callee (f := 40) rfl ?_); refine goesL_ (some 9) rfl rfl Try.func40 (by kernel_rfl) rfl #[.int .u64 (IntKind.u64.wrap (t142 * 13787848793156543929)), .int .i64 27] rfl (by (try simp only [List.map_toArray, List.map_cons, List.map_nil]); first | done | rfl | (simp only [List.length_drop, List.length_take]; rfl)) ?_; (with_reducible refine (tattlerref01_half.calls k (IntKind.u64.wrap (t142 * 13787848793156543929)) 27 t143 _ A3.out).mono ?_); rintro e w' ⟨rfl, ⟨nd, rfl⟩⟩; refine ⟨_, rfl, ?_⟩) | ((with_reducible refine gate_callee (f := 40) rfl ?_); refine goesL_ (some 12) rfl rfl Try.func40 (by kernel_rfl) rfl #[.int .u64 (IntKind.u64.wrap (t143 * 10723151780598845931)), .int .i64 31] rfl (by (try simp only [List.map_toArray, List.map_cons, List.map_nil]); first | done | rfl | (simp only [List.length_drop, List.length_take]; rfl)) ?_; (with_reducible refine (tattlerref01_half.calls k (IntKind.u64.wrap (t143 * 10723151780598845931)) 31 t144 _ A4.out).mono ?_); rintro e w' ⟨rfl, ⟨nd, rfl⟩⟩; refine ⟨_, rfl, ?_⟩))
  go_ret
  exact ⟨by first | rfl | (simp; done) | (simp [*]; done), by repeat (first | exact Drawn0.refl _ | apply Drawn0.step)⟩

/-! ### tattlerref01_Two: function 28 -/
def tattlerref01_Two.f (k : Nat) (a0 : Int) (a1 : Int) : Option (Int) := (tattlerref01_Mix.f k a0).bind fun t145 => ((tattlerref01_Mix.f k (Go.bits .xor .u64 t145 a1)).bind fun t146 => (some t146))
theorem tattlerref01_Two.mono : ∀ a0 a1 k, LeO (tattlerref01_Two.f k a0 a1) (tattlerref01_Two.f (k + 1) a0 a1) := by
  intro a0 a1 k
  unfold tattlerref01_Two.f
  repeat' first
      | (with_reducible exact tattlerref01_Mix.mono _ _)
      | (with_reducible exact LeO.refl _)
      | (with_reducible exact LeO.none _)
      | (with_reducible refine LeO.ite ?_ ?_)
      | (with_reducible refine LeO.bind ?_ (fun _ => ?_))
      | exact tattlerref01_Mix.mono _ _
      | exact LeO.none _
      | refine LeO.ite ?_ ?_
      | refine LeO.bind ?_ (fun _ => ?_)
set_option maxHeartbeats 8000000 in
set_option maxRecDepth 100000 in
theorem tattlerref01_Two.calls (k : Nat) (a0 : Int) (a1 : Int) (r : Int) (w : World) (h : tattlerref01_Two.f k a0 a1 = some r) :
    Calls Try.prog 28 #[.int .u64 a0, .int .u64 a1] w fun e w' => e = .returned (.int .u64 r) ∧ Drawn0 w w' := by
  have H : ((tattlerref01_Mix.f k a0).bind fun t145 => ((tattlerref01_Mix.f k (Go.bits .xor .u64 t145 a1)).bind fun t146 => (some t146))) = some r := h
  clear h
  replace H := Option.bind_eq_some_iff.mp H
  obtain ⟨t145, A30, H⟩ := H
  replace H : ((tattlerref01_Mix.f k (Go.bits .xor .u64 t145 a1)).bind fun t146 => (some t146)) = some r := H
  have A3 := Aside0.mk A30
  clear A30
  replace H := Option.bind_eq_some_iff.mp H
  obtain ⟨t146, A40, H⟩ := H
  replace H : (some t146) = some r := H
  have A4 := Aside0.mk A40
  clear A40
  obtain rfl := Option.some.inj H
  go_enter Try.func28, Try.ntmps28
  go_wp2_with (first | ((with_reducible refine gate_callee (f := 36) rfl ?_); refine goesL_ (some 6) rfl rfl Try.func36 (by kernel_rfl) rfl #[.int .u64 a0] rfl (by (try simp only [List.map_toArray, List.map_cons, List.map_nil]); first | done | rfl | (simp only [List.length_drop, List.length_take]; rfl)) ?_; (with_reducible refine (tattlerref01_Mix.calls k a0 t145 _ A3.out).mono ?_); rintro e w' ⟨rfl, ⟨nd, rfl⟩⟩; refine ⟨_, rfl, ?_⟩) | ((with_reducible refine gate_callee (f := 36) rfl ?_); refine goesL_ (some 9) rfl rfl Try.func36 (by kernel_rfl) rfl #[.int .u64 (Go.bits .xor .u64 t145 a1)] rfl (by (try simp only [List.map_toArray, List.map_cons, List.map_nil]); first | done | rfl | (simp only [List.length_drop, List.length_take]; rfl)) ?_; (with_reducible refine (tattlerref01_Mix.calls k (Go.bits .xor .u64 t145 a1) t146 _ A4.out).mono ?_); rintro e w' ⟨rfl, ⟨nd, rfl⟩⟩; refine ⟨_, rfl, ?_⟩))
  go_ret
  exact ⟨by first | rfl | (simp; done) | (simp [*]; done), by repeat (first | exact Drawn0.refl _ | apply Drawn0.step)⟩


end Go.Proofs.Ytjhmkmcongjngaa.PProbePlays
