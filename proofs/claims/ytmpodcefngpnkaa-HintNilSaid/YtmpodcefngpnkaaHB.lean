import Derived.Test.YtmpodcefngpnkaaPHintPlaysx0
namespace Go.Proofs.Ytmpodcefngpnkaa.PHintPlays
open Go.RowKit Go.Proofs.YtmpodcefngpnkaaW.PrintWords Go.Proofs.YtmpodcefngpnkaaW.PrintLast Go.Proofs.YtmpodcefngpnkaaW.PrintMore
attribute [local go_sem] max2_int min2_int max_two min_two max_three min_three max_four min_four   -- for this text's walks alone
set_option linter.unusedVariables false
set_option linter.unusedSimpArgs false
/-! ### tattlerlaw20_cut: function 10 -/
def tattlerlaw20_cut.l0 : Nat → List (S37) → List (S37) → Int → Int → Option ((List (S37)))
  | 0, _, _, _, _ => none
  | k + 1, x0, x5, x6, x7 => if x7 < x6 then (if 0 ≤ x7 then (if x7 < (x5.length : Int) then (if x7 > 80 then (if x7 ≤ (x0.length : Int) then (some (x0.take (x7 : Int).toNat)) else (none)) else (if (((rd_T37 x5 x7).f1.f0).size : Int) > 1000 then (if x7 ≤ (x0.length : Int) then (some (x0.take (x7 : Int).toNat)) else (none)) else (if (((rd_T37 x5 x7).f1.f5).size : Int) > 3000 then (if x7 ≤ (x0.length : Int) then (some (x0.take (x7 : Int).toNat)) else (none)) else (if (((rd_T37 x5 x7).f3).length : Int) > 100 then (if x7 ≤ (x0.length : Int) then (some (x0.take (x7 : Int).toNat)) else (none)) else (tattlerlaw20_cut.l0 k x0 x5 x6 (wrap64 (x7 + 1))))))) else (none)) else (none)) else (some x0)
def tattlerlaw20_cut.f (k : Nat) (l0 : List (S37)) : Option ((List (S37))) := tattlerlaw20_cut.l0 k l0 l0 (l0.length : Int) 0
theorem tattlerlaw20_cut.mono_l : ∀ k, (∀ y0 y1 y2 y3, LeO (tattlerlaw20_cut.l0 k y0 y1 y2 y3) (tattlerlaw20_cut.l0 (k + 1) y0 y1 y2 y3))
  | 0 => fun _ _ _ _ r h => by simp [tattlerlaw20_cut.l0] at h
  | k + 1 => by
    have ih0 := tattlerlaw20_cut.mono_l k
    · intro y0 y1 y2 y3
      unfold tattlerlaw20_cut.l0
      repeat' first
      | (with_reducible exact ih0 _ _ _ _)
      | (with_reducible exact LeO.refl _)
      | (with_reducible exact LeO.none _)
      | (with_reducible refine LeO.ite ?_ ?_)
      | (with_reducible refine LeO.bind ?_ (fun _ => ?_))
      | exact ih0 _ _ _ _
      | exact LeO.none _
      | refine LeO.ite ?_ ?_
      | refine LeO.bind ?_ (fun _ => ?_)
theorem tattlerlaw20_cut.mono : ∀ a0 k, LeO (tattlerlaw20_cut.f k a0) (tattlerlaw20_cut.f (k + 1) a0) := by
  intro a0 k
  have ih0 := tattlerlaw20_cut.mono_l k
  unfold tattlerlaw20_cut.f
  repeat' first
      | (with_reducible exact ih0 _ _ _ _)
      | (with_reducible exact LeO.refl _)
      | (with_reducible exact LeO.none _)
      | (with_reducible refine LeO.ite ?_ ?_)
      | (with_reducible refine LeO.bind ?_ (fun _ => ?_))
      | exact ih0 _ _ _ _
      | exact LeO.none _
      | refine LeO.ite ?_ ?_
      | refine LeO.bind ?_ (fun _ => ?_)
set_option maxHeartbeats 8000000 in
set_option maxRecDepth 100000 in
theorem tattlerlaw20_cut.calls (k : Nat) (P0_ : Nat → Prop) (A0 : Option Addr) (c0 : Nat) (l0 : List (S37)) (r : List (S37)) (w : World) (hs0 : Kd.V k37 37 w w.heap.size (fun k_ => P0_ k_) (.slice A0 l0.length c0) l0) (h : tattlerlaw20_cut.f k l0 = some r) :
    Calls Try.prog 10 #[.slice A0 l0.length c0] w fun e w' => ∃ v0_ : Value, e = .returned (v0_) ∧ Kd.V k37 37 w' w.heap.size (fun k_ => (P0_ k_ ∨ w.heap.size ≤ k_)) v0_ r ∧ Below w.heap.size w w' := by
  have hu37 := Try.underlying37
  have HO0 := Aside0.mk (show Kd.V k37 37 w w.heap.size (fun k_ => (P0_ k_ ∨ w.heap.size ≤ k_)) (.slice A0 l0.length c0) l0 from Kd.V_mono hs0 (fun k_ hk => .inl hk))
  have HB := Aside0.mk (Below.refl w.heap.size w)
  have H : (tattlerlaw20_cut.l0 k l0 l0 (l0.length : Int) 0) = some r := h
  clear h
  have H' := Aside0.mk H
  clear H
  go_enter Try.func10, Try.ntmps10
  go_wp2
  go_loopg [7] k (fun kq v7 w' => ∃ (x7_1 : Int), v7 = .int .i64 x7_1 ∧ Aside0 (tattlerlaw20_cut.l0 kq l0 l0 (l0.length : Int) x7_1 = some r) ∧ Aside0 (kq ≤ k) ∧ Aside0 (Kd.V k37 37 w' w.heap.size (fun k_ => (P0_ k_ ∨ w.heap.size ≤ k_)) (.slice A0 l0.length c0) l0) ∧ Aside0 (Kd.V k37 37 w' w.heap.size (fun k_ => (P0_ k_ ∨ w.heap.size ≤ k_)) (.slice A0 l0.length c0) l0) ∧ Aside0 (Below w.heap.size w w'))
  case atStart => exact ⟨(0), (by first | rfl | (simp; done) | (simp [*]; done)), H', ⟨Nat.le_refl _⟩, ⟨by (with_reducible repeat (first | apply Kd.V_alloc | apply Kd.V_drewN | apply Kd.V_drew)); exact HO0.out⟩, ⟨by (with_reducible repeat (first | apply Kd.V_alloc | apply Kd.V_drewN | apply Kd.V_drew)); exact HO0.out⟩, ⟨by repeat (first | (with_reducible first | exact HB.out | apply below_alloc | apply pw_below_drewN | apply below_drew1) | exact HB.out)⟩⟩
  case round =>
    clear H'
    try clear c1
    obtain ⟨x7_1, rfl, HA, HK1, HO_0, HO_5, HB⟩ := hrel
    cases gk with
    | zero => exact absurd HA.out (by simp [tattlerlaw20_cut.l0])
    | succ k1 =>
      have H := HA.out
      clear HA
      simp only [tattlerlaw20_cut.l0] at H
      by_cases c2 : x7_1 < (l0.length : Int)
      · rw [if_pos c2] at H
        have c2b0 : decide (x7_1 < (l0.length : Int)) = true := decide_eq_true c2
        clear c2
        by_cases c3 : 0 ≤ x7_1
        · rw [if_pos c3] at H
          have c3b0 : decide (0 ≤ x7_1) = true := decide_eq_true c3
          clear c3
          by_cases c4 : x7_1 < (l0.length : Int)
          · rw [if_pos c4] at H
            have c4b0 : decide (x7_1 < (l0.length : Int)) = true := decide_eq_true c4
            clear c4
            by_cases c5 : x7_1 > 80
            · rw [if_pos c5] at H
              have c5b0 : decide (80 < x7_1) = true := decide_eq_true c5
              clear c5
              have c6b0 := eq_true (of_decide_eq_true (by first | (with_reducible assumption) | assumption) : 0 ≤ x7_1)
              by_cases c7 : x7_1 ≤ (l0.length : Int)
              · rw [if_pos c7] at H
                have c7b0 := eq_true c7
                have c7b1 : decide (x7_1 ≤ (l0.length : Int)) = true := decide_eq_true c7
                clear c7
                obtain ⟨y138, hy138⟩ : ∃ y_ : List (S37), y_ = (l0.take (x7_1 : Int).toNat) := ⟨_, rfl⟩
                replace H : (some y138) = some r := by first | (rw [hy138]; with_reducible exact H) | (have H2_ := (Option.bind_some _ _).symm.trans H; rw [hy138]; with_reducible exact H2_) | (have H2_ := (Option.bind_some _ _).symm.trans H; with_reducible exact H2_) | with_reducible exact H | (rw [hy138]; exact H) | exact H
                have Ny138 := Aside0.mk hy138
                clear hy138
                obtain rfl := Option.some.inj H
                have p136 : 0 ≤ (x7_1 : Int) := of_decide_eq_true (by first | (with_reducible assumption) | assumption)
                have q136 : x7_1 < (l0.length : Int) := of_decide_eq_true (by first | (with_reducible assumption) | assumption)
                obtain ⟨ad136, A136_10, c136_10, e136, hx136_0, hx136_1, hx136_2, hx136_3, hx136_4, hx136_5, hx136_6, hx136_7, hx136_8, hx136_9, hx136_10, hl136_10, hi136_10⟩ := at_T37 (Kd.V_reads' HO_5.out).2.2 x7_1 p136 q136
                cases e136
                obtain ⟨ce136, hce136, hMe136, hcc136⟩ := Kd.V_get HO_5.out z37 x7_1 p136 (by first | exact q136 | exact of_decide_eq_true (by first | (with_reducible assumption) | assumption) | (have e_ := (Kd.V_reads' HO_5.out).1; omega))
                obtain ⟨ua136_10, uc136_10, rfl, ul136_10, ge136_10⟩ := k37_openF hMe136
                have hv136_10 := hcc136 10 _ rfl
                rw [add_field _ _ 10 (by omega)] at hv136_10
                replace hv136_10 := Option.some.inj (hv136_10.symm.trans hx136_10)
                injection hv136_10 with hva_ hvn_ hvc_
                rw [hva_] at ge136_10
                rw [hvc_] at ul136_10
                have HL136_10 := Aside0.mk (show Kd.V (Kd.int .u8) 5 _ w.heap.size _ _ ((rd_T37 l0 x7_1).f3) from Kd.V_mk ul136_10 ge136_10)
                clear hva_ hvn_ hvc_ ge136_10 ul136_10
                clear hcc136 hce136
                have HR136_10 := Aside0.mk hi136_10
                have HC136_10 := Aside0.mk hl136_10
                clear hi136_10 hl136_10
                replace p136 := eq_true p136
                replace q136 := eq_true q136
                go_wp2_with (first | ((with_reducible refine gate_dst (N := 4) rfl ?_); (try (refine gate_guard (by rfl) ?_; dsimp only)); refine box_event ?hg (N := 4) ?hd (cs := #[.int .i64 0, .string (⟨#[]⟩ : ByteArray), .int .u64 0, .int .u32 0, .int .u8 0, .int .u8 0, .int .u32 0, .int .u64 0, .string (⟨#[]⟩ : ByteArray), .int .u8 0, .slice none 0 0]) (t := 37) ?hr ?_; (case hd => rfl); (case hg => rfl); (case hr => first | (go_simp; done) | (go_simp; rfl)); intro gb137 hg w8 hbox hb; have n0_ := Aside0.mk (Kd.V_below (Kd.V_elderB (by (with_reducible repeat (first | apply Kd.V_alloc | apply Kd.V_drewN | apply Kd.V_drew)); exact HO_0.out) gb137 (Nat.le_of_eq hg.symm)) hb); have n1_ := Aside0.mk (Kd.V_below (Kd.V_elderB (by (with_reducible repeat (first | apply Kd.V_alloc | apply Kd.V_drewN | apply Kd.V_drew)); exact HO_5.out) gb137 (Nat.le_of_eq hg.symm)) hb); have n2_ := Aside0.mk (Kd.V_below (Kd.V_elderB (by (with_reducible repeat (first | apply Kd.V_alloc | apply Kd.V_drewN | apply Kd.V_drew)); exact HL136_10.out) gb137 (Nat.le_of_eq hg.symm)) hb); have n3_ := Aside0.mk (Kd.C_below (by repeat (first | (with_reducible exact HR136_10.out) | (with_reducible refine Kd.C_alloc ?_ _) | (with_reducible refine Kd.C_drewN ?_ _) | (with_reducible refine Kd.C_drew ?_) | exact HR136_10.out)) hb); have n4_ := Aside0.mk (below_step (by repeat (first | (with_reducible first | exact HB.out | apply below_alloc | apply pw_below_drewN | apply below_drew1) | exact HB.out)) hb); have n5_ := Aside0.mk (hbox); have n6_ := Aside0.mk ((by rw [hg]; exact (below_size (by repeat (first | (with_reducible first | exact HB.out | apply below_alloc | apply pw_below_drewN | apply below_drew1) | exact HB.out))) : w.heap.size ≤ gb137)); have n7_ := Aside0.mk ((by rw [hg]; exact (below_size (by repeat (first | (with_reducible first | exact HB.out | apply below_alloc | apply pw_below_drewN | apply below_drew1) | exact HB.out))) : w.heap.size ≤ gb137)); clear HO_0; clear HO_5; clear HL136_10; clear HR136_10; clear HB; have HO_0 := n0_; have HO_5 := n1_; have HL136_10 := n2_; have HR136_10 := n3_; have HB := n4_; have BK137 := n5_; have GW137 := n6_; have GE137 := n7_; clear n0_ n1_ n2_ n3_ n4_ n5_ n6_ n7_; clear hb hbox hg; have hcz9_0 : w8.cell? ⟨gb137, 0, none⟩ = some (.int .i64 0) := (blk_cell BK137.out 0).trans rfl; have hcz9_1 : w8.cell? ⟨gb137, 1, none⟩ = some (.string (⟨#[]⟩ : ByteArray)) := (blk_cell BK137.out 1).trans rfl; have hcz9_2 : w8.cell? ⟨gb137, 2, none⟩ = some (.int .u64 0) := (blk_cell BK137.out 2).trans rfl; have hcz9_3 : w8.cell? ⟨gb137, 3, none⟩ = some (.int .u32 0) := (blk_cell BK137.out 3).trans rfl; have hcz9_4 : w8.cell? ⟨gb137, 4, none⟩ = some (.int .u8 0) := (blk_cell BK137.out 4).trans rfl; have hcz9_5 : w8.cell? ⟨gb137, 5, none⟩ = some (.int .u8 0) := (blk_cell BK137.out 5).trans rfl; have hcz9_6 : w8.cell? ⟨gb137, 6, none⟩ = some (.int .u32 0) := (blk_cell BK137.out 6).trans rfl; have hcz9_7 : w8.cell? ⟨gb137, 7, none⟩ = some (.int .u64 0) := (blk_cell BK137.out 7).trans rfl; have hcz9_8 : w8.cell? ⟨gb137, 8, none⟩ = some (.string (⟨#[]⟩ : ByteArray)) := (blk_cell BK137.out 8).trans rfl; have hcz9_9 : w8.cell? ⟨gb137, 9, none⟩ = some (.int .u8 0) := (blk_cell BK137.out 9).trans rfl; have hcz9_10 : w8.cell? ⟨gb137, 10, none⟩ = some (.slice none 0 0) := (blk_cell BK137.out 10).trans rfl; have hfz9_0 := blk_frozen BK137.out 0; have hfz9_1 := blk_frozen BK137.out 1; have hfz9_2 := blk_frozen BK137.out 2; have hfz9_3 := blk_frozen BK137.out 3; have hfz9_4 := blk_frozen BK137.out 4; have hfz9_5 := blk_frozen BK137.out 5; have hfz9_6 := blk_frozen BK137.out 6; have hfz9_7 := blk_frozen BK137.out 7; have hfz9_8 := blk_frozen BK137.out 8; have hfz9_9 := blk_frozen BK137.out 9; have hfz9_10 := blk_frozen BK137.out 10) | ((with_reducible refine gate_store (t := 37) (p := 4) rfl ?_); refine store_event (t := 37) (p := 4) (v := ?vo_w10) (w1 := (((((((((((w8.setCell ⟨gb137, 0, none⟩ (.int .i64 ((rd_T37 l0 x7_1).f0))).setCell ⟨gb137, 1, none⟩ (.string ((rd_T37 l0 x7_1).f1.f0))).setCell ⟨gb137, 2, none⟩ (.int .u64 ((rd_T37 l0 x7_1).f1.f1.f0))).setCell ⟨gb137, 3, none⟩ (.int .u32 ((rd_T37 l0 x7_1).f1.f1.f1))).setCell ⟨gb137, 4, none⟩ (.int .u8 ((rd_T37 l0 x7_1).f1.f1.f2))).setCell ⟨gb137, 5, none⟩ (.int .u8 ((rd_T37 l0 x7_1).f1.f2))).setCell ⟨gb137, 6, none⟩ (.int .u32 ((rd_T37 l0 x7_1).f1.f3))).setCell ⟨gb137, 7, none⟩ (.int .u64 ((rd_T37 l0 x7_1).f1.f4))).setCell ⟨gb137, 8, none⟩ (.string ((rd_T37 l0 x7_1).f1.f5))).setCell ⟨gb137, 9, none⟩ (.int .u8 ((rd_T37 l0 x7_1).f2))).setCell ⟨gb137, 10, none⟩ (.slice A136_10 ((rd_T37 l0 x7_1).f3).length c136_10))) ?hg ?ho ?hn ?hr ?_; (case ho => rfl); (case hg => rfl); (case hn => rfl); (case hr => first | (go_simp; done) | (go_simp; rfl)); intro w10 hw; have n0_ : Aside0 (Kd.V k37 37 w10 w.heap.size (fun k_ => (P0_ k_ ∨ w.heap.size ≤ k_) ∧ k_ ≠ gb137) (.slice (some ad136) l0.length c0) l0) := ⟨(by rw [hw]; exact (by (with_reducible repeat (first | apply Kd.V_alloc | apply Kd.V_drewN | apply Kd.V_drew)); exact Kd.V_mono (Kd.V_far (p := ⟨gb137, 10, none⟩) (Kd.V_far (p := ⟨gb137, 9, none⟩) (Kd.V_far (p := ⟨gb137, 8, none⟩) (Kd.V_far (p := ⟨gb137, 7, none⟩) (Kd.V_far (p := ⟨gb137, 6, none⟩) (Kd.V_far (p := ⟨gb137, 5, none⟩) (Kd.V_far (p := ⟨gb137, 4, none⟩) (Kd.V_far (p := ⟨gb137, 3, none⟩) (Kd.V_far (p := ⟨gb137, 2, none⟩) (Kd.V_far (p := ⟨gb137, 1, none⟩) (Kd.V_far (p := ⟨gb137, 0, none⟩) (Kd.V_mono HO_0.out (fun k_ hk => (⟨hk, hk.2⟩ : _ ∧ k_ ≠ gb137))) (fun _ hk => hk.2) (.int .i64 ((rd_T37 l0 x7_1).f0))) (fun _ hk => hk.2) (.string ((rd_T37 l0 x7_1).f1.f0))) (fun _ hk => hk.2) (.int .u64 ((rd_T37 l0 x7_1).f1.f1.f0))) (fun _ hk => hk.2) (.int .u32 ((rd_T37 l0 x7_1).f1.f1.f1))) (fun _ hk => hk.2) (.int .u8 ((rd_T37 l0 x7_1).f1.f1.f2))) (fun _ hk => hk.2) (.int .u8 ((rd_T37 l0 x7_1).f1.f2))) (fun _ hk => hk.2) (.int .u32 ((rd_T37 l0 x7_1).f1.f3))) (fun _ hk => hk.2) (.int .u64 ((rd_T37 l0 x7_1).f1.f4))) (fun _ hk => hk.2) (.string ((rd_T37 l0 x7_1).f1.f5))) (fun _ hk => hk.2) (.int .u8 ((rd_T37 l0 x7_1).f2))) (fun _ hk => hk.2) (.slice A136_10 ((rd_T37 l0 x7_1).f3).length c136_10)) (fun _ hk => ⟨hk.1.1, hk.1.2⟩)))⟩; have n1_ : Aside0 (Kd.V k37 37 w10 w.heap.size (fun k_ => (P0_ k_ ∨ w.heap.size ≤ k_) ∧ k_ ≠ gb137) (.slice (some ad136) l0.length c0) l0) := ⟨(by rw [hw]; exact (by (with_reducible repeat (first | apply Kd.V_alloc | apply Kd.V_drewN | apply Kd.V_drew)); exact Kd.V_mono (Kd.V_far (p := ⟨gb137, 10, none⟩) (Kd.V_far (p := ⟨gb137, 9, none⟩) (Kd.V_far (p := ⟨gb137, 8, none⟩) (Kd.V_far (p := ⟨gb137, 7, none⟩) (Kd.V_far (p := ⟨gb137, 6, none⟩) (Kd.V_far (p := ⟨gb137, 5, none⟩) (Kd.V_far (p := ⟨gb137, 4, none⟩) (Kd.V_far (p := ⟨gb137, 3, none⟩) (Kd.V_far (p := ⟨gb137, 2, none⟩) (Kd.V_far (p := ⟨gb137, 1, none⟩) (Kd.V_far (p := ⟨gb137, 0, none⟩) (Kd.V_mono HO_5.out (fun k_ hk => (⟨hk, hk.2⟩ : _ ∧ k_ ≠ gb137))) (fun _ hk => hk.2) (.int .i64 ((rd_T37 l0 x7_1).f0))) (fun _ hk => hk.2) (.string ((rd_T37 l0 x7_1).f1.f0))) (fun _ hk => hk.2) (.int .u64 ((rd_T37 l0 x7_1).f1.f1.f0))) (fun _ hk => hk.2) (.int .u32 ((rd_T37 l0 x7_1).f1.f1.f1))) (fun _ hk => hk.2) (.int .u8 ((rd_T37 l0 x7_1).f1.f1.f2))) (fun _ hk => hk.2) (.int .u8 ((rd_T37 l0 x7_1).f1.f2))) (fun _ hk => hk.2) (.int .u32 ((rd_T37 l0 x7_1).f1.f3))) (fun _ hk => hk.2) (.int .u64 ((rd_T37 l0 x7_1).f1.f4))) (fun _ hk => hk.2) (.string ((rd_T37 l0 x7_1).f1.f5))) (fun _ hk => hk.2) (.int .u8 ((rd_T37 l0 x7_1).f2))) (fun _ hk => hk.2) (.slice A136_10 ((rd_T37 l0 x7_1).f3).length c136_10)) (fun _ hk => ⟨hk.1.1, hk.1.2⟩)))⟩; have n2_ : Aside0 (Kd.V (Kd.int .u8) 5 w10 w.heap.size (fun k_ => (P0_ k_ ∨ w.heap.size ≤ k_) ∧ k_ ≠ gb137) (.slice A136_10 ((rd_T37 l0 x7_1).f3).length c136_10) ((rd_T37 l0 x7_1).f3)) := ⟨(by rw [hw]; exact (by (with_reducible repeat (first | apply Kd.V_alloc | apply Kd.V_drewN | apply Kd.V_drew)); exact Kd.V_mono (Kd.V_far (p := ⟨gb137, 10, none⟩) (Kd.V_far (p := ⟨gb137, 9, none⟩) (Kd.V_far (p := ⟨gb137, 8, none⟩) (Kd.V_far (p := ⟨gb137, 7, none⟩) (Kd.V_far (p := ⟨gb137, 6, none⟩) (Kd.V_far (p := ⟨gb137, 5, none⟩) (Kd.V_far (p := ⟨gb137, 4, none⟩) (Kd.V_far (p := ⟨gb137, 3, none⟩) (Kd.V_far (p := ⟨gb137, 2, none⟩) (Kd.V_far (p := ⟨gb137, 1, none⟩) (Kd.V_far (p := ⟨gb137, 0, none⟩) (Kd.V_mono HL136_10.out (fun k_ hk => (⟨hk, hk.2⟩ : _ ∧ k_ ≠ gb137))) (fun _ hk => hk.2) (.int .i64 ((rd_T37 l0 x7_1).f0))) (fun _ hk => hk.2) (.string ((rd_T37 l0 x7_1).f1.f0))) (fun _ hk => hk.2) (.int .u64 ((rd_T37 l0 x7_1).f1.f1.f0))) (fun _ hk => hk.2) (.int .u32 ((rd_T37 l0 x7_1).f1.f1.f1))) (fun _ hk => hk.2) (.int .u8 ((rd_T37 l0 x7_1).f1.f1.f2))) (fun _ hk => hk.2) (.int .u8 ((rd_T37 l0 x7_1).f1.f2))) (fun _ hk => hk.2) (.int .u32 ((rd_T37 l0 x7_1).f1.f3))) (fun _ hk => hk.2) (.int .u64 ((rd_T37 l0 x7_1).f1.f4))) (fun _ hk => hk.2) (.string ((rd_T37 l0 x7_1).f1.f5))) (fun _ hk => hk.2) (.int .u8 ((rd_T37 l0 x7_1).f2))) (fun _ hk => hk.2) (.slice A136_10 ((rd_T37 l0 x7_1).f3).length c136_10)) (fun _ hk => ⟨hk.1.1, hk.1.2⟩)))⟩; have n3_ : Aside0 (w10.heap[gb137]? = some (.cells #[.int .i64 ((rd_T37 l0 x7_1).f0), .string ((rd_T37 l0 x7_1).f1.f0), .int .u64 ((rd_T37 l0 x7_1).f1.f1.f0), .int .u32 ((rd_T37 l0 x7_1).f1.f1.f1), .int .u8 ((rd_T37 l0 x7_1).f1.f1.f2), .int .u8 ((rd_T37 l0 x7_1).f1.f2), .int .u32 ((rd_T37 l0 x7_1).f1.f3), .int .u64 ((rd_T37 l0 x7_1).f1.f4), .string ((rd_T37 l0 x7_1).f1.f5), .int .u8 ((rd_T37 l0 x7_1).f2), .slice A136_10 ((rd_T37 l0 x7_1).f3).length c136_10] 37 (0, 0))) := ⟨(by rw [hw]; exact (by (with_reducible repeat (first | refine blk_drewN ?_ _ | refine blk_drew ?_ | refine blk_alloc ?_ _)); refine blk_put (cs := #[.int .i64 ((rd_T37 l0 x7_1).f0), .string ((rd_T37 l0 x7_1).f1.f0), .int .u64 ((rd_T37 l0 x7_1).f1.f1.f0), .int .u32 ((rd_T37 l0 x7_1).f1.f1.f1), .int .u8 ((rd_T37 l0 x7_1).f1.f1.f2), .int .u8 ((rd_T37 l0 x7_1).f1.f2), .int .u32 ((rd_T37 l0 x7_1).f1.f3), .int .u64 ((rd_T37 l0 x7_1).f1.f4), .string ((rd_T37 l0 x7_1).f1.f5), .int .u8 ((rd_T37 l0 x7_1).f2), .slice none 0 0]) ?_ 10 _ rfl; (with_reducible repeat (first | refine blk_drewN ?_ _ | refine blk_drew ?_ | refine blk_alloc ?_ _)); refine blk_put (cs := #[.int .i64 ((rd_T37 l0 x7_1).f0), .string ((rd_T37 l0 x7_1).f1.f0), .int .u64 ((rd_T37 l0 x7_1).f1.f1.f0), .int .u32 ((rd_T37 l0 x7_1).f1.f1.f1), .int .u8 ((rd_T37 l0 x7_1).f1.f1.f2), .int .u8 ((rd_T37 l0 x7_1).f1.f2), .int .u32 ((rd_T37 l0 x7_1).f1.f3), .int .u64 ((rd_T37 l0 x7_1).f1.f4), .string ((rd_T37 l0 x7_1).f1.f5), .int .u8 0, .slice none 0 0]) ?_ 9 _ rfl; (with_reducible repeat (first | refine blk_drewN ?_ _ | refine blk_drew ?_ | refine blk_alloc ?_ _)); refine blk_put (cs := #[.int .i64 ((rd_T37 l0 x7_1).f0), .string ((rd_T37 l0 x7_1).f1.f0), .int .u64 ((rd_T37 l0 x7_1).f1.f1.f0), .int .u32 ((rd_T37 l0 x7_1).f1.f1.f1), .int .u8 ((rd_T37 l0 x7_1).f1.f1.f2), .int .u8 ((rd_T37 l0 x7_1).f1.f2), .int .u32 ((rd_T37 l0 x7_1).f1.f3), .int .u64 ((rd_T37 l0 x7_1).f1.f4), .string (⟨#[]⟩ : ByteArray), .int .u8 0, .slice none 0 0]) ?_ 8 _ rfl; (with_reducible repeat (first | refine blk_drewN ?_ _ | refine blk_drew ?_ | refine blk_alloc ?_ _)); refine blk_put (cs := #[.int .i64 ((rd_T37 l0 x7_1).f0), .string ((rd_T37 l0 x7_1).f1.f0), .int .u64 ((rd_T37 l0 x7_1).f1.f1.f0), .int .u32 ((rd_T37 l0 x7_1).f1.f1.f1), .int .u8 ((rd_T37 l0 x7_1).f1.f1.f2), .int .u8 ((rd_T37 l0 x7_1).f1.f2), .int .u32 ((rd_T37 l0 x7_1).f1.f3), .int .u64 0, .string (⟨#[]⟩ : ByteArray), .int .u8 0, .slice none 0 0]) ?_ 7 _ rfl; (with_reducible repeat (first | refine blk_drewN ?_ _ | refine blk_drew ?_ | refine blk_alloc ?_ _)); refine blk_put (cs := #[.int .i64 ((rd_T37 l0 x7_1).f0), .string ((rd_T37 l0 x7_1).f1.f0), .int .u64 ((rd_T37 l0 x7_1).f1.f1.f0), .int .u32 ((rd_T37 l0 x7_1).f1.f1.f1), .int .u8 ((rd_T37 l0 x7_1).f1.f1.f2), .int .u8 ((rd_T37 l0 x7_1).f1.f2), .int .u32 0, .int .u64 0, .string (⟨#[]⟩ : ByteArray), .int .u8 0, .slice none 0 0]) ?_ 6 _ rfl; (with_reducible repeat (first | refine blk_drewN ?_ _ | refine blk_drew ?_ | refine blk_alloc ?_ _)); refine blk_put (cs := #[.int .i64 ((rd_T37 l0 x7_1).f0), .string ((rd_T37 l0 x7_1).f1.f0), .int .u64 ((rd_T37 l0 x7_1).f1.f1.f0), .int .u32 ((rd_T37 l0 x7_1).f1.f1.f1), .int .u8 ((rd_T37 l0 x7_1).f1.f1.f2), .int .u8 0, .int .u32 0, .int .u64 0, .string (⟨#[]⟩ : ByteArray), .int .u8 0, .slice none 0 0]) ?_ 5 _ rfl; (with_reducible repeat (first | refine blk_drewN ?_ _ | refine blk_drew ?_ | refine blk_alloc ?_ _)); refine blk_put (cs := #[.int .i64 ((rd_T37 l0 x7_1).f0), .string ((rd_T37 l0 x7_1).f1.f0), .int .u64 ((rd_T37 l0 x7_1).f1.f1.f0), .int .u32 ((rd_T37 l0 x7_1).f1.f1.f1), .int .u8 0, .int .u8 0, .int .u32 0, .int .u64 0, .string (⟨#[]⟩ : ByteArray), .int .u8 0, .slice none 0 0]) ?_ 4 _ rfl; (with_reducible repeat (first | refine blk_drewN ?_ _ | refine blk_drew ?_ | refine blk_alloc ?_ _)); refine blk_put (cs := #[.int .i64 ((rd_T37 l0 x7_1).f0), .string ((rd_T37 l0 x7_1).f1.f0), .int .u64 ((rd_T37 l0 x7_1).f1.f1.f0), .int .u32 0, .int .u8 0, .int .u8 0, .int .u32 0, .int .u64 0, .string (⟨#[]⟩ : ByteArray), .int .u8 0, .slice none 0 0]) ?_ 3 _ rfl; (with_reducible repeat (first | refine blk_drewN ?_ _ | refine blk_drew ?_ | refine blk_alloc ?_ _)); refine blk_put (cs := #[.int .i64 ((rd_T37 l0 x7_1).f0), .string ((rd_T37 l0 x7_1).f1.f0), .int .u64 0, .int .u32 0, .int .u8 0, .int .u8 0, .int .u32 0, .int .u64 0, .string (⟨#[]⟩ : ByteArray), .int .u8 0, .slice none 0 0]) ?_ 2 _ rfl; (with_reducible repeat (first | refine blk_drewN ?_ _ | refine blk_drew ?_ | refine blk_alloc ?_ _)); refine blk_put (cs := #[.int .i64 ((rd_T37 l0 x7_1).f0), .string (⟨#[]⟩ : ByteArray), .int .u64 0, .int .u32 0, .int .u8 0, .int .u8 0, .int .u32 0, .int .u64 0, .string (⟨#[]⟩ : ByteArray), .int .u8 0, .slice none 0 0]) ?_ 1 _ rfl; (with_reducible repeat (first | refine blk_drewN ?_ _ | refine blk_drew ?_ | refine blk_alloc ?_ _)); refine blk_put (cs := #[.int .i64 0, .string (⟨#[]⟩ : ByteArray), .int .u64 0, .int .u32 0, .int .u8 0, .int .u8 0, .int .u32 0, .int .u64 0, .string (⟨#[]⟩ : ByteArray), .int .u8 0, .slice none 0 0]) ?_ 0 _ rfl; (with_reducible repeat (first | refine blk_drewN ?_ _ | refine blk_drew ?_ | refine blk_alloc ?_ _)); exact BK137.out))⟩; have n4_ : Aside0 (Below w.heap.size w w10) := ⟨(by rw [hw]; exact (by repeat (first | (with_reducible first | exact HB.out | apply below_alloc | apply pw_below_drewN | apply below_drew1 | refine below_set ?_ GE137.out) | exact HB.out)))⟩; clear hw; clear HO_0; clear HO_5; clear HL136_10; clear BK137; clear HB; have HO_0 := n0_; have HO_5 := n1_; have HL136_10 := n2_; have BK137 := n3_; have HB := n4_; clear n0_ n1_ n2_ n3_ n4_; have q11 : (x7_1 : Int) ≤ ((l0.length : Int) : Int) := of_decide_eq_true (by first | (with_reducible assumption) | assumption); obtain ⟨i011, hi011, _, hsz11, _⟩ := info_parts info37; have hroom11 : l0.length ≤ c0 := (Kd.V_reads' HO_0.out).2.1; have hC11 : Kd.F k37 _ _ (some ad136) l0.length l0 := (Kd.V_at (base := w.heap.size) HO_0.out).2.2; have hcut11 := cut_to (P := Try.prog) 22 37 .i64 Try.underlying22 hi011 (some ad136) l0.length c0 x7_1 (of_decide_eq_true (by first | (with_reducible assumption) | assumption)) q11 hroom11; have hr11 := Kd.F_take (m := (x7_1 : Int).toNat) hC11 (by omega); have hy11 : y138.length = (x7_1 : Int).toNat := (by rw [Ny138.out, List.length_take]; omega); rw [← Ny138.out] at hr11; rw [← hy11] at hcut11; have HO142 := Aside0.mk (show Kd.V k37 37 _ w.heap.size _ (.slice (some ad136) y138.length c0) y138 from Kd.V_mk (by omega) hr11); have HC142 := Aside0.mk (show y138.length ≤ c0 from by omega); clear hr11 hC11 hroom11 hi011 hsz11; have KY11 := Aside0.mk hy11; clear hy11; replace q11 := eq_true q11))
                go_ret
                exact ⟨_, by first | rfl | (simp [errW_none, errW_some] <;> rfl) | (simp [*, errW_none, errW_some] <;> rfl), by (with_reducible repeat (first | apply Kd.V_alloc | apply Kd.V_drewN | apply Kd.V_drew)); exact Kd.V_mono HO142.out (fun _ hk => hk.1), by repeat (first | (with_reducible first | exact HB.out | apply below_alloc | apply pw_below_drewN | apply below_drew1 | refine below_set ?_ GE137.out) | exact HB.out)⟩
              · rw [if_neg c7] at H
                exact absurd H (by simp)
            · rw [if_neg c5] at H
              have c5b0 : decide (80 < x7_1) = false := decide_eq_false c5
              clear c5
              by_cases c12 : (((rd_T37 l0 x7_1).f1.f0).size : Int) > 1000
              · rw [if_pos c12] at H
                have c12b0 : decide (1000 < (((rd_T37 l0 x7_1).f1.f0).size : Int)) = true := decide_eq_true c12
                have c12b1 : decide (1000 < ((rd_T37 l0 x7_1).f1.f0).size) = true := decide_eq_true (by omega)
                clear c12
                have c13b0 := eq_true (of_decide_eq_true (by first | (with_reducible assumption) | assumption) : 0 ≤ x7_1)
                by_cases c14 : x7_1 ≤ (l0.length : Int)
                · rw [if_pos c14] at H
                  have c14b0 := eq_true c14
                  have c14b1 : decide (x7_1 ≤ (l0.length : Int)) = true := decide_eq_true c14
                  clear c14
                  obtain ⟨y143, hy143⟩ : ∃ y_ : List (S37), y_ = (l0.take (x7_1 : Int).toNat) := ⟨_, rfl⟩
                  replace H : (some y143) = some r := by first | (rw [hy143]; with_reducible exact H) | (have H2_ := (Option.bind_some _ _).symm.trans H; rw [hy143]; with_reducible exact H2_) | (have H2_ := (Option.bind_some _ _).symm.trans H; with_reducible exact H2_) | with_reducible exact H | (rw [hy143]; exact H) | exact H
                  have Ny143 := Aside0.mk hy143
                  clear hy143
                  obtain rfl := Option.some.inj H
                  have p136 : 0 ≤ (x7_1 : Int) := of_decide_eq_true (by first | (with_reducible assumption) | assumption)
                  have q136 : x7_1 < (l0.length : Int) := of_decide_eq_true (by first | (with_reducible assumption) | assumption)
                  obtain ⟨ad136, A136_10, c136_10, e136, hx136_0, hx136_1, hx136_2, hx136_3, hx136_4, hx136_5, hx136_6, hx136_7, hx136_8, hx136_9, hx136_10, hl136_10, hi136_10⟩ := at_T37 (Kd.V_reads' HO_5.out).2.2 x7_1 p136 q136
                  cases e136
                  obtain ⟨ce136, hce136, hMe136, hcc136⟩ := Kd.V_get HO_5.out z37 x7_1 p136 (by first | exact q136 | exact of_decide_eq_true (by first | (with_reducible assumption) | assumption) | (have e_ := (Kd.V_reads' HO_5.out).1; omega))
                  obtain ⟨ua136_10, uc136_10, rfl, ul136_10, ge136_10⟩ := k37_openF hMe136
                  have hv136_10 := hcc136 10 _ rfl
                  rw [add_field _ _ 10 (by omega)] at hv136_10
                  replace hv136_10 := Option.some.inj (hv136_10.symm.trans hx136_10)
                  injection hv136_10 with hva_ hvn_ hvc_
                  rw [hva_] at ge136_10
                  rw [hvc_] at ul136_10
                  have HL136_10 := Aside0.mk (show Kd.V (Kd.int .u8) 5 _ w.heap.size _ _ ((rd_T37 l0 x7_1).f3) from Kd.V_mk ul136_10 ge136_10)
                  clear hva_ hvn_ hvc_ ge136_10 ul136_10
                  clear hcc136 hce136
                  have HR136_10 := Aside0.mk hi136_10
                  have HC136_10 := Aside0.mk hl136_10
                  clear hi136_10 hl136_10
                  replace p136 := eq_true p136
                  replace q136 := eq_true q136
                  go_wp2_with (first | ((with_reducible refine gate_dst (N := 4) rfl ?_); (try (refine gate_guard (by rfl) ?_; dsimp only)); refine box_event ?hg (N := 4) ?hd (cs := #[.int .i64 0, .string (⟨#[]⟩ : ByteArray), .int .u64 0, .int .u32 0, .int .u8 0, .int .u8 0, .int .u32 0, .int .u64 0, .string (⟨#[]⟩ : ByteArray), .int .u8 0, .slice none 0 0]) (t := 37) ?hr ?_; (case hd => rfl); (case hg => rfl); (case hr => first | (go_simp; done) | (go_simp; rfl)); intro gb137 hg w15 hbox hb; have n0_ := Aside0.mk (Kd.V_below (Kd.V_elderB (by (with_reducible repeat (first | apply Kd.V_alloc | apply Kd.V_drewN | apply Kd.V_drew)); exact HO_0.out) gb137 (Nat.le_of_eq hg.symm)) hb); have n1_ := Aside0.mk (Kd.V_below (Kd.V_elderB (by (with_reducible repeat (first | apply Kd.V_alloc | apply Kd.V_drewN | apply Kd.V_drew)); exact HO_5.out) gb137 (Nat.le_of_eq hg.symm)) hb); have n2_ := Aside0.mk (Kd.V_below (Kd.V_elderB (by (with_reducible repeat (first | apply Kd.V_alloc | apply Kd.V_drewN | apply Kd.V_drew)); exact HL136_10.out) gb137 (Nat.le_of_eq hg.symm)) hb); have n3_ := Aside0.mk (Kd.C_below (by repeat (first | (with_reducible exact HR136_10.out) | (with_reducible refine Kd.C_alloc ?_ _) | (with_reducible refine Kd.C_drewN ?_ _) | (with_reducible refine Kd.C_drew ?_) | exact HR136_10.out)) hb); have n4_ := Aside0.mk (below_step (by repeat (first | (with_reducible first | exact HB.out | apply below_alloc | apply pw_below_drewN | apply below_drew1) | exact HB.out)) hb); have n5_ := Aside0.mk (hbox); have n6_ := Aside0.mk ((by rw [hg]; exact (below_size (by repeat (first | (with_reducible first | exact HB.out | apply below_alloc | apply pw_below_drewN | apply below_drew1) | exact HB.out))) : w.heap.size ≤ gb137)); have n7_ := Aside0.mk ((by rw [hg]; exact (below_size (by repeat (first | (with_reducible first | exact HB.out | apply below_alloc | apply pw_below_drewN | apply below_drew1) | exact HB.out))) : w.heap.size ≤ gb137)); clear HO_0; clear HO_5; clear HL136_10; clear HR136_10; clear HB; have HO_0 := n0_; have HO_5 := n1_; have HL136_10 := n2_; have HR136_10 := n3_; have HB := n4_; have BK137 := n5_; have GW137 := n6_; have GE137 := n7_; clear n0_ n1_ n2_ n3_ n4_ n5_ n6_ n7_; clear hb hbox hg; have hcz16_0 : w15.cell? ⟨gb137, 0, none⟩ = some (.int .i64 0) := (blk_cell BK137.out 0).trans rfl; have hcz16_1 : w15.cell? ⟨gb137, 1, none⟩ = some (.string (⟨#[]⟩ : ByteArray)) := (blk_cell BK137.out 1).trans rfl; have hcz16_2 : w15.cell? ⟨gb137, 2, none⟩ = some (.int .u64 0) := (blk_cell BK137.out 2).trans rfl; have hcz16_3 : w15.cell? ⟨gb137, 3, none⟩ = some (.int .u32 0) := (blk_cell BK137.out 3).trans rfl; have hcz16_4 : w15.cell? ⟨gb137, 4, none⟩ = some (.int .u8 0) := (blk_cell BK137.out 4).trans rfl; have hcz16_5 : w15.cell? ⟨gb137, 5, none⟩ = some (.int .u8 0) := (blk_cell BK137.out 5).trans rfl; have hcz16_6 : w15.cell? ⟨gb137, 6, none⟩ = some (.int .u32 0) := (blk_cell BK137.out 6).trans rfl; have hcz16_7 : w15.cell? ⟨gb137, 7, none⟩ = some (.int .u64 0) := (blk_cell BK137.out 7).trans rfl; have hcz16_8 : w15.cell? ⟨gb137, 8, none⟩ = some (.string (⟨#[]⟩ : ByteArray)) := (blk_cell BK137.out 8).trans rfl; have hcz16_9 : w15.cell? ⟨gb137, 9, none⟩ = some (.int .u8 0) := (blk_cell BK137.out 9).trans rfl; have hcz16_10 : w15.cell? ⟨gb137, 10, none⟩ = some (.slice none 0 0) := (blk_cell BK137.out 10).trans rfl; have hfz16_0 := blk_frozen BK137.out 0; have hfz16_1 := blk_frozen BK137.out 1; have hfz16_2 := blk_frozen BK137.out 2; have hfz16_3 := blk_frozen BK137.out 3; have hfz16_4 := blk_frozen BK137.out 4; have hfz16_5 := blk_frozen BK137.out 5; have hfz16_6 := blk_frozen BK137.out 6; have hfz16_7 := blk_frozen BK137.out 7; have hfz16_8 := blk_frozen BK137.out 8; have hfz16_9 := blk_frozen BK137.out 9; have hfz16_10 := blk_frozen BK137.out 10) | ((with_reducible refine gate_store (t := 37) (p := 4) rfl ?_); refine store_event (t := 37) (p := 4) (v := ?vo_w17) (w1 := (((((((((((w15.setCell ⟨gb137, 0, none⟩ (.int .i64 ((rd_T37 l0 x7_1).f0))).setCell ⟨gb137, 1, none⟩ (.string ((rd_T37 l0 x7_1).f1.f0))).setCell ⟨gb137, 2, none⟩ (.int .u64 ((rd_T37 l0 x7_1).f1.f1.f0))).setCell ⟨gb137, 3, none⟩ (.int .u32 ((rd_T37 l0 x7_1).f1.f1.f1))).setCell ⟨gb137, 4, none⟩ (.int .u8 ((rd_T37 l0 x7_1).f1.f1.f2))).setCell ⟨gb137, 5, none⟩ (.int .u8 ((rd_T37 l0 x7_1).f1.f2))).setCell ⟨gb137, 6, none⟩ (.int .u32 ((rd_T37 l0 x7_1).f1.f3))).setCell ⟨gb137, 7, none⟩ (.int .u64 ((rd_T37 l0 x7_1).f1.f4))).setCell ⟨gb137, 8, none⟩ (.string ((rd_T37 l0 x7_1).f1.f5))).setCell ⟨gb137, 9, none⟩ (.int .u8 ((rd_T37 l0 x7_1).f2))).setCell ⟨gb137, 10, none⟩ (.slice A136_10 ((rd_T37 l0 x7_1).f3).length c136_10))) ?hg ?ho ?hn ?hr ?_; (case ho => rfl); (case hg => rfl); (case hn => rfl); (case hr => first | (go_simp; done) | (go_simp; rfl)); intro w17 hw; have n0_ : Aside0 (Kd.V k37 37 w17 w.heap.size (fun k_ => (P0_ k_ ∨ w.heap.size ≤ k_) ∧ k_ ≠ gb137) (.slice (some ad136) l0.length c0) l0) := ⟨(by rw [hw]; exact (by (with_reducible repeat (first | apply Kd.V_alloc | apply Kd.V_drewN | apply Kd.V_drew)); exact Kd.V_mono (Kd.V_far (p := ⟨gb137, 10, none⟩) (Kd.V_far (p := ⟨gb137, 9, none⟩) (Kd.V_far (p := ⟨gb137, 8, none⟩) (Kd.V_far (p := ⟨gb137, 7, none⟩) (Kd.V_far (p := ⟨gb137, 6, none⟩) (Kd.V_far (p := ⟨gb137, 5, none⟩) (Kd.V_far (p := ⟨gb137, 4, none⟩) (Kd.V_far (p := ⟨gb137, 3, none⟩) (Kd.V_far (p := ⟨gb137, 2, none⟩) (Kd.V_far (p := ⟨gb137, 1, none⟩) (Kd.V_far (p := ⟨gb137, 0, none⟩) (Kd.V_mono HO_0.out (fun k_ hk => (⟨hk, hk.2⟩ : _ ∧ k_ ≠ gb137))) (fun _ hk => hk.2) (.int .i64 ((rd_T37 l0 x7_1).f0))) (fun _ hk => hk.2) (.string ((rd_T37 l0 x7_1).f1.f0))) (fun _ hk => hk.2) (.int .u64 ((rd_T37 l0 x7_1).f1.f1.f0))) (fun _ hk => hk.2) (.int .u32 ((rd_T37 l0 x7_1).f1.f1.f1))) (fun _ hk => hk.2) (.int .u8 ((rd_T37 l0 x7_1).f1.f1.f2))) (fun _ hk => hk.2) (.int .u8 ((rd_T37 l0 x7_1).f1.f2))) (fun _ hk => hk.2) (.int .u32 ((rd_T37 l0 x7_1).f1.f3))) (fun _ hk => hk.2) (.int .u64 ((rd_T37 l0 x7_1).f1.f4))) (fun _ hk => hk.2) (.string ((rd_T37 l0 x7_1).f1.f5))) (fun _ hk => hk.2) (.int .u8 ((rd_T37 l0 x7_1).f2))) (fun _ hk => hk.2) (.slice A136_10 ((rd_T37 l0 x7_1).f3).length c136_10)) (fun _ hk => ⟨hk.1.1, hk.1.2⟩)))⟩; have n1_ : Aside0 (Kd.V k37 37 w17 w.heap.size (fun k_ => (P0_ k_ ∨ w.heap.size ≤ k_) ∧ k_ ≠ gb137) (.slice (some ad136) l0.length c0) l0) := ⟨(by rw [hw]; exact (by (with_reducible repeat (first | apply Kd.V_alloc | apply Kd.V_drewN | apply Kd.V_drew)); exact Kd.V_mono (Kd.V_far (p := ⟨gb137, 10, none⟩) (Kd.V_far (p := ⟨gb137, 9, none⟩) (Kd.V_far (p := ⟨gb137, 8, none⟩) (Kd.V_far (p := ⟨gb137, 7, none⟩) (Kd.V_far (p := ⟨gb137, 6, none⟩) (Kd.V_far (p := ⟨gb137, 5, none⟩) (Kd.V_far (p := ⟨gb137, 4, none⟩) (Kd.V_far (p := ⟨gb137, 3, none⟩) (Kd.V_far (p := ⟨gb137, 2, none⟩) (Kd.V_far (p := ⟨gb137, 1, none⟩) (Kd.V_far (p := ⟨gb137, 0, none⟩) (Kd.V_mono HO_5.out (fun k_ hk => (⟨hk, hk.2⟩ : _ ∧ k_ ≠ gb137))) (fun _ hk => hk.2) (.int .i64 ((rd_T37 l0 x7_1).f0))) (fun _ hk => hk.2) (.string ((rd_T37 l0 x7_1).f1.f0))) (fun _ hk => hk.2) (.int .u64 ((rd_T37 l0 x7_1).f1.f1.f0))) (fun _ hk => hk.2) (.int .u32 ((rd_T37 l0 x7_1).f1.f1.f1))) (fun _ hk => hk.2) (.int .u8 ((rd_T37 l0 x7_1).f1.f1.f2))) (fun _ hk => hk.2) (.int .u8 ((rd_T37 l0 x7_1).f1.f2))) (fun _ hk => hk.2) (.int .u32 ((rd_T37 l0 x7_1).f1.f3))) (fun _ hk => hk.2) (.int .u64 ((rd_T37 l0 x7_1).f1.f4))) (fun _ hk => hk.2) (.string ((rd_T37 l0 x7_1).f1.f5))) (fun _ hk => hk.2) (.int .u8 ((rd_T37 l0 x7_1).f2))) (fun _ hk => hk.2) (.slice A136_10 ((rd_T37 l0 x7_1).f3).length c136_10)) (fun _ hk => ⟨hk.1.1, hk.1.2⟩)))⟩; have n2_ : Aside0 (Kd.V (Kd.int .u8) 5 w17 w.heap.size (fun k_ => (P0_ k_ ∨ w.heap.size ≤ k_) ∧ k_ ≠ gb137) (.slice A136_10 ((rd_T37 l0 x7_1).f3).length c136_10) ((rd_T37 l0 x7_1).f3)) := ⟨(by rw [hw]; exact (by (with_reducible repeat (first | apply Kd.V_alloc | apply Kd.V_drewN | apply Kd.V_drew)); exact Kd.V_mono (Kd.V_far (p := ⟨gb137, 10, none⟩) (Kd.V_far (p := ⟨gb137, 9, none⟩) (Kd.V_far (p := ⟨gb137, 8, none⟩) (Kd.V_far (p := ⟨gb137, 7, none⟩) (Kd.V_far (p := ⟨gb137, 6, none⟩) (Kd.V_far (p := ⟨gb137, 5, none⟩) (Kd.V_far (p := ⟨gb137, 4, none⟩) (Kd.V_far (p := ⟨gb137, 3, none⟩) (Kd.V_far (p := ⟨gb137, 2, none⟩) (Kd.V_far (p := ⟨gb137, 1, none⟩) (Kd.V_far (p := ⟨gb137, 0, none⟩) (Kd.V_mono HL136_10.out (fun k_ hk => (⟨hk, hk.2⟩ : _ ∧ k_ ≠ gb137))) (fun _ hk => hk.2) (.int .i64 ((rd_T37 l0 x7_1).f0))) (fun _ hk => hk.2) (.string ((rd_T37 l0 x7_1).f1.f0))) (fun _ hk => hk.2) (.int .u64 ((rd_T37 l0 x7_1).f1.f1.f0))) (fun _ hk => hk.2) (.int .u32 ((rd_T37 l0 x7_1).f1.f1.f1))) (fun _ hk => hk.2) (.int .u8 ((rd_T37 l0 x7_1).f1.f1.f2))) (fun _ hk => hk.2) (.int .u8 ((rd_T37 l0 x7_1).f1.f2))) (fun _ hk => hk.2) (.int .u32 ((rd_T37 l0 x7_1).f1.f3))) (fun _ hk => hk.2) (.int .u64 ((rd_T37 l0 x7_1).f1.f4))) (fun _ hk => hk.2) (.string ((rd_T37 l0 x7_1).f1.f5))) (fun _ hk => hk.2) (.int .u8 ((rd_T37 l0 x7_1).f2))) (fun _ hk => hk.2) (.slice A136_10 ((rd_T37 l0 x7_1).f3).length c136_10)) (fun _ hk => ⟨hk.1.1, hk.1.2⟩)))⟩; have n3_ : Aside0 (w17.heap[gb137]? = some (.cells #[.int .i64 ((rd_T37 l0 x7_1).f0), .string ((rd_T37 l0 x7_1).f1.f0), .int .u64 ((rd_T37 l0 x7_1).f1.f1.f0), .int .u32 ((rd_T37 l0 x7_1).f1.f1.f1), .int .u8 ((rd_T37 l0 x7_1).f1.f1.f2), .int .u8 ((rd_T37 l0 x7_1).f1.f2), .int .u32 ((rd_T37 l0 x7_1).f1.f3), .int .u64 ((rd_T37 l0 x7_1).f1.f4), .string ((rd_T37 l0 x7_1).f1.f5), .int .u8 ((rd_T37 l0 x7_1).f2), .slice A136_10 ((rd_T37 l0 x7_1).f3).length c136_10] 37 (0, 0))) := ⟨(by rw [hw]; exact (by (with_reducible repeat (first | refine blk_drewN ?_ _ | refine blk_drew ?_ | refine blk_alloc ?_ _)); refine blk_put (cs := #[.int .i64 ((rd_T37 l0 x7_1).f0), .string ((rd_T37 l0 x7_1).f1.f0), .int .u64 ((rd_T37 l0 x7_1).f1.f1.f0), .int .u32 ((rd_T37 l0 x7_1).f1.f1.f1), .int .u8 ((rd_T37 l0 x7_1).f1.f1.f2), .int .u8 ((rd_T37 l0 x7_1).f1.f2), .int .u32 ((rd_T37 l0 x7_1).f1.f3), .int .u64 ((rd_T37 l0 x7_1).f1.f4), .string ((rd_T37 l0 x7_1).f1.f5), .int .u8 ((rd_T37 l0 x7_1).f2), .slice none 0 0]) ?_ 10 _ rfl; (with_reducible repeat (first | refine blk_drewN ?_ _ | refine blk_drew ?_ | refine blk_alloc ?_ _)); refine blk_put (cs := #[.int .i64 ((rd_T37 l0 x7_1).f0), .string ((rd_T37 l0 x7_1).f1.f0), .int .u64 ((rd_T37 l0 x7_1).f1.f1.f0), .int .u32 ((rd_T37 l0 x7_1).f1.f1.f1), .int .u8 ((rd_T37 l0 x7_1).f1.f1.f2), .int .u8 ((rd_T37 l0 x7_1).f1.f2), .int .u32 ((rd_T37 l0 x7_1).f1.f3), .int .u64 ((rd_T37 l0 x7_1).f1.f4), .string ((rd_T37 l0 x7_1).f1.f5), .int .u8 0, .slice none 0 0]) ?_ 9 _ rfl; (with_reducible repeat (first | refine blk_drewN ?_ _ | refine blk_drew ?_ | refine blk_alloc ?_ _)); refine blk_put (cs := #[.int .i64 ((rd_T37 l0 x7_1).f0), .string ((rd_T37 l0 x7_1).f1.f0), .int .u64 ((rd_T37 l0 x7_1).f1.f1.f0), .int .u32 ((rd_T37 l0 x7_1).f1.f1.f1), .int .u8 ((rd_T37 l0 x7_1).f1.f1.f2), .int .u8 ((rd_T37 l0 x7_1).f1.f2), .int .u32 ((rd_T37 l0 x7_1).f1.f3), .int .u64 ((rd_T37 l0 x7_1).f1.f4), .string (⟨#[]⟩ : ByteArray), .int .u8 0, .slice none 0 0]) ?_ 8 _ rfl; (with_reducible repeat (first | refine blk_drewN ?_ _ | refine blk_drew ?_ | refine blk_alloc ?_ _)); refine blk_put (cs := #[.int .i64 ((rd_T37 l0 x7_1).f0), .string ((rd_T37 l0 x7_1).f1.f0), .int .u64 ((rd_T37 l0 x7_1).f1.f1.f0), .int .u32 ((rd_T37 l0 x7_1).f1.f1.f1), .int .u8 ((rd_T37 l0 x7_1).f1.f1.f2), .int .u8 ((rd_T37 l0 x7_1).f1.f2), .int .u32 ((rd_T37 l0 x7_1).f1.f3), .int .u64 0, .string (⟨#[]⟩ : ByteArray), .int .u8 0, .slice none 0 0]) ?_ 7 _ rfl; (with_reducible repeat (first | refine blk_drewN ?_ _ | refine blk_drew ?_ | refine blk_alloc ?_ _)); refine blk_put (cs := #[.int .i64 ((rd_T37 l0 x7_1).f0), .string ((rd_T37 l0 x7_1).f1.f0), .int .u64 ((rd_T37 l0 x7_1).f1.f1.f0), .int .u32 ((rd_T37 l0 x7_1).f1.f1.f1), .int .u8 ((rd_T37 l0 x7_1).f1.f1.f2), .int .u8 ((rd_T37 l0 x7_1).f1.f2), .int .u32 0, .int .u64 0, .string (⟨#[]⟩ : ByteArray), .int .u8 0, .slice none 0 0]) ?_ 6 _ rfl; (with_reducible repeat (first | refine blk_drewN ?_ _ | refine blk_drew ?_ | refine blk_alloc ?_ _)); refine blk_put (cs := #[.int .i64 ((rd_T37 l0 x7_1).f0), .string ((rd_T37 l0 x7_1).f1.f0), .int .u64 ((rd_T37 l0 x7_1).f1.f1.f0), .int .u32 ((rd_T37 l0 x7_1).f1.f1.f1), .int .u8 ((rd_T37 l0 x7_1).f1.f1.f2), .int .u8 0, .int .u32 0, .int .u64 0, .string (⟨#[]⟩ : ByteArray), .int .u8 0, .slice none 0 0]) ?_ 5 _ rfl; (with_reducible repeat (first | refine blk_drewN ?_ _ | refine blk_drew ?_ | refine blk_alloc ?_ _)); refine blk_put (cs := #[.int .i64 ((rd_T37 l0 x7_1).f0), .string ((rd_T37 l0 x7_1).f1.f0), .int .u64 ((rd_T37 l0 x7_1).f1.f1.f0), .int .u32 ((rd_T37 l0 x7_1).f1.f1.f1), .int .u8 0, .int .u8 0, .int .u32 0, .int .u64 0, .string (⟨#[]⟩ : ByteArray), .int .u8 0, .slice none 0 0]) ?_ 4 _ rfl; (with_reducible repeat (first | refine blk_drewN ?_ _ | refine blk_drew ?_ | refine blk_alloc ?_ _)); refine blk_put (cs := #[.int .i64 ((rd_T37 l0 x7_1).f0), .string ((rd_T37 l0 x7_1).f1.f0), .int .u64 ((rd_T37 l0 x7_1).f1.f1.f0), .int .u32 0, .int .u8 0, .int .u8 0, .int .u32 0, .int .u64 0, .string (⟨#[]⟩ : ByteArray), .int .u8 0, .slice none 0 0]) ?_ 3 _ rfl; (with_reducible repeat (first | refine blk_drewN ?_ _ | refine blk_drew ?_ | refine blk_alloc ?_ _)); refine blk_put (cs := #[.int .i64 ((rd_T37 l0 x7_1).f0), .string ((rd_T37 l0 x7_1).f1.f0), .int .u64 0, .int .u32 0, .int .u8 0, .int .u8 0, .int .u32 0, .int .u64 0, .string (⟨#[]⟩ : ByteArray), .int .u8 0, .slice none 0 0]) ?_ 2 _ rfl; (with_reducible repeat (first | refine blk_drewN ?_ _ | refine blk_drew ?_ | refine blk_alloc ?_ _)); refine blk_put (cs := #[.int .i64 ((rd_T37 l0 x7_1).f0), .string (⟨#[]⟩ : ByteArray), .int .u64 0, .int .u32 0, .int .u8 0, .int .u8 0, .int .u32 0, .int .u64 0, .string (⟨#[]⟩ : ByteArray), .int .u8 0, .slice none 0 0]) ?_ 1 _ rfl; (with_reducible repeat (first | refine blk_drewN ?_ _ | refine blk_drew ?_ | refine blk_alloc ?_ _)); refine blk_put (cs := #[.int .i64 0, .string (⟨#[]⟩ : ByteArray), .int .u64 0, .int .u32 0, .int .u8 0, .int .u8 0, .int .u32 0, .int .u64 0, .string (⟨#[]⟩ : ByteArray), .int .u8 0, .slice none 0 0]) ?_ 0 _ rfl; (with_reducible repeat (first | refine blk_drewN ?_ _ | refine blk_drew ?_ | refine blk_alloc ?_ _)); exact BK137.out))⟩; have n4_ : Aside0 (Below w.heap.size w w17) := ⟨(by rw [hw]; exact (by repeat (first | (with_reducible first | exact HB.out | apply below_alloc | apply pw_below_drewN | apply below_drew1 | refine below_set ?_ GE137.out) | exact HB.out)))⟩; clear hw; clear HO_0; clear HO_5; clear HL136_10; clear BK137; clear HB; have HO_0 := n0_; have HO_5 := n1_; have HL136_10 := n2_; have BK137 := n3_; have HB := n4_; clear n0_ n1_ n2_ n3_ n4_; have hcz18_0 : w17.cell? ⟨gb137, 0, none⟩ = some (.int .i64 ((rd_T37 l0 x7_1).f0)) := (blk_cell BK137.out 0).trans rfl; have hcz18_1 : w17.cell? ⟨gb137, 1, none⟩ = some (.string ((rd_T37 l0 x7_1).f1.f0)) := (blk_cell BK137.out 1).trans rfl; have hcz18_2 : w17.cell? ⟨gb137, 2, none⟩ = some (.int .u64 ((rd_T37 l0 x7_1).f1.f1.f0)) := (blk_cell BK137.out 2).trans rfl; have hcz18_3 : w17.cell? ⟨gb137, 3, none⟩ = some (.int .u32 ((rd_T37 l0 x7_1).f1.f1.f1)) := (blk_cell BK137.out 3).trans rfl; have hcz18_4 : w17.cell? ⟨gb137, 4, none⟩ = some (.int .u8 ((rd_T37 l0 x7_1).f1.f1.f2)) := (blk_cell BK137.out 4).trans rfl; have hcz18_5 : w17.cell? ⟨gb137, 5, none⟩ = some (.int .u8 ((rd_T37 l0 x7_1).f1.f2)) := (blk_cell BK137.out 5).trans rfl; have hcz18_6 : w17.cell? ⟨gb137, 6, none⟩ = some (.int .u32 ((rd_T37 l0 x7_1).f1.f3)) := (blk_cell BK137.out 6).trans rfl; have hcz18_7 : w17.cell? ⟨gb137, 7, none⟩ = some (.int .u64 ((rd_T37 l0 x7_1).f1.f4)) := (blk_cell BK137.out 7).trans rfl; have hcz18_8 : w17.cell? ⟨gb137, 8, none⟩ = some (.string ((rd_T37 l0 x7_1).f1.f5)) := (blk_cell BK137.out 8).trans rfl; have hcz18_9 : w17.cell? ⟨gb137, 9, none⟩ = some (.int .u8 ((rd_T37 l0 x7_1).f2)) := (blk_cell BK137.out 9).trans rfl; have hcz18_10 : w17.cell? ⟨gb137, 10, none⟩ = some (.slice A136_10 ((rd_T37 l0 x7_1).f3).length c136_10) := (blk_cell BK137.out 10).trans rfl; have hfz18_0 := blk_frozen BK137.out 0; have hfz18_1 := blk_frozen BK137.out 1; have hfz18_2 := blk_frozen BK137.out 2; have hfz18_3 := blk_frozen BK137.out 3; have hfz18_4 := blk_frozen BK137.out 4; have hfz18_5 := blk_frozen BK137.out 5; have hfz18_6 := blk_frozen BK137.out 6; have hfz18_7 := blk_frozen BK137.out 7; have hfz18_8 := blk_frozen BK137.out 8; have hfz18_9 := blk_frozen BK137.out 9; have hfz18_10 := blk_frozen BK137.out 10; have q19 : (x7_1 : Int) ≤ ((l0.length : Int) : Int) := of_decide_eq_true (by first | (with_reducible assumption) | assumption); obtain ⟨i019, hi019, _, hsz19, _⟩ := info_parts info37; have hroom19 : l0.length ≤ c0 := (Kd.V_reads' HO_0.out).2.1; have hC19 : Kd.F k37 _ _ (some ad136) l0.length l0 := (Kd.V_at (base := w.heap.size) HO_0.out).2.2; have hcut19 := cut_to (P := Try.prog) 22 37 .i64 Try.underlying22 hi019 (some ad136) l0.length c0 x7_1 (of_decide_eq_true (by first | (with_reducible assumption) | assumption)) q19 hroom19; have hr19 := Kd.F_take (m := (x7_1 : Int).toNat) hC19 (by omega); have hy19 : y143.length = (x7_1 : Int).toNat := (by rw [Ny143.out, List.length_take]; omega); rw [← Ny143.out] at hr19; rw [← hy19] at hcut19; have HO147 := Aside0.mk (show Kd.V k37 37 _ w.heap.size _ (.slice (some ad136) y143.length c0) y143 from Kd.V_mk (by omega) hr19); have HC147 := Aside0.mk (show y143.length ≤ c0 from by omega); clear hr19 hC19 hroom19 hi019 hsz19; have KY19 := Aside0.mk hy19; clear hy19; replace q19 := eq_true q19))
                  go_ret
                  exact ⟨_, by first | rfl | (simp [errW_none, errW_some] <;> rfl) | (simp [*, errW_none, errW_some] <;> rfl), by (with_reducible repeat (first | apply Kd.V_alloc | apply Kd.V_drewN | apply Kd.V_drew)); exact Kd.V_mono HO147.out (fun _ hk => hk.1), by repeat (first | (with_reducible first | exact HB.out | apply below_alloc | apply pw_below_drewN | apply below_drew1 | refine below_set ?_ GE137.out) | exact HB.out)⟩
                · rw [if_neg c14] at H
                  exact absurd H (by simp)
              · rw [if_neg c12] at H
                have c12b0 : decide (1000 < (((rd_T37 l0 x7_1).f1.f0).size : Int)) = false := decide_eq_false c12
                have c12b1 : decide (1000 < ((rd_T37 l0 x7_1).f1.f0).size) = false := decide_eq_false (by omega)
                clear c12
                by_cases c20 : (((rd_T37 l0 x7_1).f1.f5).size : Int) > 3000
                · rw [if_pos c20] at H
                  have c20b0 : decide (3000 < (((rd_T37 l0 x7_1).f1.f5).size : Int)) = true := decide_eq_true c20
                  have c20b1 : decide (3000 < ((rd_T37 l0 x7_1).f1.f5).size) = true := decide_eq_true (by omega)
                  clear c20
                  have c21b0 := eq_true (of_decide_eq_true (by first | (with_reducible assumption) | assumption) : 0 ≤ x7_1)
                  by_cases c22 : x7_1 ≤ (l0.length : Int)
                  · rw [if_pos c22] at H
                    have c22b0 := eq_true c22
                    have c22b1 : decide (x7_1 ≤ (l0.length : Int)) = true := decide_eq_true c22
                    clear c22
                    obtain ⟨y148, hy148⟩ : ∃ y_ : List (S37), y_ = (l0.take (x7_1 : Int).toNat) := ⟨_, rfl⟩
                    replace H : (some y148) = some r := by first | (rw [hy148]; with_reducible exact H) | (have H2_ := (Option.bind_some _ _).symm.trans H; rw [hy148]; with_reducible exact H2_) | (have H2_ := (Option.bind_some _ _).symm.trans H; with_reducible exact H2_) | with_reducible exact H | (rw [hy148]; exact H) | exact H
                    have Ny148 := Aside0.mk hy148
                    clear hy148
                    obtain rfl := Option.some.inj H
                    have p136 : 0 ≤ (x7_1 : Int) := of_decide_eq_true (by first | (with_reducible assumption) | assumption)
                    have q136 : x7_1 < (l0.length : Int) := of_decide_eq_true (by first | (with_reducible assumption) | assumption)
                    obtain ⟨ad136, A136_10, c136_10, e136, hx136_0, hx136_1, hx136_2, hx136_3, hx136_4, hx136_5, hx136_6, hx136_7, hx136_8, hx136_9, hx136_10, hl136_10, hi136_10⟩ := at_T37 (Kd.V_reads' HO_5.out).2.2 x7_1 p136 q136
                    cases e136
                    obtain ⟨ce136, hce136, hMe136, hcc136⟩ := Kd.V_get HO_5.out z37 x7_1 p136 (by first | exact q136 | exact of_decide_eq_true (by first | (with_reducible assumption) | assumption) | (have e_ := (Kd.V_reads' HO_5.out).1; omega))
                    obtain ⟨ua136_10, uc136_10, rfl, ul136_10, ge136_10⟩ := k37_openF hMe136
                    have hv136_10 := hcc136 10 _ rfl
                    rw [add_field _ _ 10 (by omega)] at hv136_10
                    replace hv136_10 := Option.some.inj (hv136_10.symm.trans hx136_10)
                    injection hv136_10 with hva_ hvn_ hvc_
                    rw [hva_] at ge136_10
                    rw [hvc_] at ul136_10
                    have HL136_10 := Aside0.mk (show Kd.V (Kd.int .u8) 5 _ w.heap.size _ _ ((rd_T37 l0 x7_1).f3) from Kd.V_mk ul136_10 ge136_10)
                    clear hva_ hvn_ hvc_ ge136_10 ul136_10
                    clear hcc136 hce136
                    have HR136_10 := Aside0.mk hi136_10
                    have HC136_10 := Aside0.mk hl136_10
                    clear hi136_10 hl136_10
                    replace p136 := eq_true p136
                    replace q136 := eq_true q136
                    go_wp2_with (first | ((with_reducible refine gate_dst (N := 4) rfl ?_); (try (refine gate_guard (by rfl) ?_; dsimp only)); refine box_event ?hg (N := 4) ?hd (cs := #[.int .i64 0, .string (⟨#[]⟩ : ByteArray), .int .u64 0, .int .u32 0, .int .u8 0, .int .u8 0, .int .u32 0, .int .u64 0, .string (⟨#[]⟩ : ByteArray), .int .u8 0, .slice none 0 0]) (t := 37) ?hr ?_; (case hd => rfl); (case hg => rfl); (case hr => first | (go_simp; done) | (go_simp; rfl)); intro gb137 hg w23 hbox hb; have n0_ := Aside0.mk (Kd.V_below (Kd.V_elderB (by (with_reducible repeat (first | apply Kd.V_alloc | apply Kd.V_drewN | apply Kd.V_drew)); exact HO_0.out) gb137 (Nat.le_of_eq hg.symm)) hb); have n1_ := Aside0.mk (Kd.V_below (Kd.V_elderB (by (with_reducible repeat (first | apply Kd.V_alloc | apply Kd.V_drewN | apply Kd.V_drew)); exact HO_5.out) gb137 (Nat.le_of_eq hg.symm)) hb); have n2_ := Aside0.mk (Kd.V_below (Kd.V_elderB (by (with_reducible repeat (first | apply Kd.V_alloc | apply Kd.V_drewN | apply Kd.V_drew)); exact HL136_10.out) gb137 (Nat.le_of_eq hg.symm)) hb); have n3_ := Aside0.mk (Kd.C_below (by repeat (first | (with_reducible exact HR136_10.out) | (with_reducible refine Kd.C_alloc ?_ _) | (with_reducible refine Kd.C_drewN ?_ _) | (with_reducible refine Kd.C_drew ?_) | exact HR136_10.out)) hb); have n4_ := Aside0.mk (below_step (by repeat (first | (with_reducible first | exact HB.out | apply below_alloc | apply pw_below_drewN | apply below_drew1) | exact HB.out)) hb); have n5_ := Aside0.mk (hbox); have n6_ := Aside0.mk ((by rw [hg]; exact (below_size (by repeat (first | (with_reducible first | exact HB.out | apply below_alloc | apply pw_below_drewN | apply below_drew1) | exact HB.out))) : w.heap.size ≤ gb137)); have n7_ := Aside0.mk ((by rw [hg]; exact (below_size (by repeat (first | (with_reducible first | exact HB.out | apply below_alloc | apply pw_below_drewN | apply below_drew1) | exact HB.out))) : w.heap.size ≤ gb137)); clear HO_0; clear HO_5; clear HL136_10; clear HR136_10; clear HB; have HO_0 := n0_; have HO_5 := n1_; have HL136_10 := n2_; have HR136_10 := n3_; have HB := n4_; have BK137 := n5_; have GW137 := n6_; have GE137 := n7_; clear n0_ n1_ n2_ n3_ n4_ n5_ n6_ n7_; clear hb hbox hg; have hcz24_0 : w23.cell? ⟨gb137, 0, none⟩ = some (.int .i64 0) := (blk_cell BK137.out 0).trans rfl; have hcz24_1 : w23.cell? ⟨gb137, 1, none⟩ = some (.string (⟨#[]⟩ : ByteArray)) := (blk_cell BK137.out 1).trans rfl; have hcz24_2 : w23.cell? ⟨gb137, 2, none⟩ = some (.int .u64 0) := (blk_cell BK137.out 2).trans rfl; have hcz24_3 : w23.cell? ⟨gb137, 3, none⟩ = some (.int .u32 0) := (blk_cell BK137.out 3).trans rfl; have hcz24_4 : w23.cell? ⟨gb137, 4, none⟩ = some (.int .u8 0) := (blk_cell BK137.out 4).trans rfl; have hcz24_5 : w23.cell? ⟨gb137, 5, none⟩ = some (.int .u8 0) := (blk_cell BK137.out 5).trans rfl; have hcz24_6 : w23.cell? ⟨gb137, 6, none⟩ = some (.int .u32 0) := (blk_cell BK137.out 6).trans rfl; have hcz24_7 : w23.cell? ⟨gb137, 7, none⟩ = some (.int .u64 0) := (blk_cell BK137.out 7).trans rfl; have hcz24_8 : w23.cell? ⟨gb137, 8, none⟩ = some (.string (⟨#[]⟩ : ByteArray)) := (blk_cell BK137.out 8).trans rfl; have hcz24_9 : w23.cell? ⟨gb137, 9, none⟩ = some (.int .u8 0) := (blk_cell BK137.out 9).trans rfl; have hcz24_10 : w23.cell? ⟨gb137, 10, none⟩ = some (.slice none 0 0) := (blk_cell BK137.out 10).trans rfl; have hfz24_0 := blk_frozen BK137.out 0; have hfz24_1 := blk_frozen BK137.out 1; have hfz24_2 := blk_frozen BK137.out 2; have hfz24_3 := blk_frozen BK137.out 3; have hfz24_4 := blk_frozen BK137.out 4; have hfz24_5 := blk_frozen BK137.out 5; have hfz24_6 := blk_frozen BK137.out 6; have hfz24_7 := blk_frozen BK137.out 7; have hfz24_8 := blk_frozen BK137.out 8; have hfz24_9 := blk_frozen BK137.out 9; have hfz24_10 := blk_frozen BK137.out 10) | ((with_reducible refine gate_store (t := 37) (p := 4) rfl ?_); refine store_event (t := 37) (p := 4) (v := ?vo_w25) (w1 := (((((((((((w23.setCell ⟨gb137, 0, none⟩ (.int .i64 ((rd_T37 l0 x7_1).f0))).setCell ⟨gb137, 1, none⟩ (.string ((rd_T37 l0 x7_1).f1.f0))).setCell ⟨gb137, 2, none⟩ (.int .u64 ((rd_T37 l0 x7_1).f1.f1.f0))).setCell ⟨gb137, 3, none⟩ (.int .u32 ((rd_T37 l0 x7_1).f1.f1.f1))).setCell ⟨gb137, 4, none⟩ (.int .u8 ((rd_T37 l0 x7_1).f1.f1.f2))).setCell ⟨gb137, 5, none⟩ (.int .u8 ((rd_T37 l0 x7_1).f1.f2))).setCell ⟨gb137, 6, none⟩ (.int .u32 ((rd_T37 l0 x7_1).f1.f3))).setCell ⟨gb137, 7, none⟩ (.int .u64 ((rd_T37 l0 x7_1).f1.f4))).setCell ⟨gb137, 8, none⟩ (.string ((rd_T37 l0 x7_1).f1.f5))).setCell ⟨gb137, 9, none⟩ (.int .u8 ((rd_T37 l0 x7_1).f2))).setCell ⟨gb137, 10, none⟩ (.slice A136_10 ((rd_T37 l0 x7_1).f3).length c136_10))) ?hg ?ho ?hn ?hr ?_; (case ho => rfl); (case hg => rfl); (case hn => rfl); (case hr => first | (go_simp; done) | (go_simp; rfl)); intro w25 hw; have n0_ : Aside0 (Kd.V k37 37 w25 w.heap.size (fun k_ => (P0_ k_ ∨ w.heap.size ≤ k_) ∧ k_ ≠ gb137) (.slice (some ad136) l0.length c0) l0) := ⟨(by rw [hw]; exact (by (with_reducible repeat (first | apply Kd.V_alloc | apply Kd.V_drewN | apply Kd.V_drew)); exact Kd.V_mono (Kd.V_far (p := ⟨gb137, 10, none⟩) (Kd.V_far (p := ⟨gb137, 9, none⟩) (Kd.V_far (p := ⟨gb137, 8, none⟩) (Kd.V_far (p := ⟨gb137, 7, none⟩) (Kd.V_far (p := ⟨gb137, 6, none⟩) (Kd.V_far (p := ⟨gb137, 5, none⟩) (Kd.V_far (p := ⟨gb137, 4, none⟩) (Kd.V_far (p := ⟨gb137, 3, none⟩) (Kd.V_far (p := ⟨gb137, 2, none⟩) (Kd.V_far (p := ⟨gb137, 1, none⟩) (Kd.V_far (p := ⟨gb137, 0, none⟩) (Kd.V_mono HO_0.out (fun k_ hk => (⟨hk, hk.2⟩ : _ ∧ k_ ≠ gb137))) (fun _ hk => hk.2) (.int .i64 ((rd_T37 l0 x7_1).f0))) (fun _ hk => hk.2) (.string ((rd_T37 l0 x7_1).f1.f0))) (fun _ hk => hk.2) (.int .u64 ((rd_T37 l0 x7_1).f1.f1.f0))) (fun _ hk => hk.2) (.int .u32 ((rd_T37 l0 x7_1).f1.f1.f1))) (fun _ hk => hk.2) (.int .u8 ((rd_T37 l0 x7_1).f1.f1.f2))) (fun _ hk => hk.2) (.int .u8 ((rd_T37 l0 x7_1).f1.f2))) (fun _ hk => hk.2) (.int .u32 ((rd_T37 l0 x7_1).f1.f3))) (fun _ hk => hk.2) (.int .u64 ((rd_T37 l0 x7_1).f1.f4))) (fun _ hk => hk.2) (.string ((rd_T37 l0 x7_1).f1.f5))) (fun _ hk => hk.2) (.int .u8 ((rd_T37 l0 x7_1).f2))) (fun _ hk => hk.2) (.slice A136_10 ((rd_T37 l0 x7_1).f3).length c136_10)) (fun _ hk => ⟨hk.1.1, hk.1.2⟩)))⟩; have n1_ : Aside0 (Kd.V k37 37 w25 w.heap.size (fun k_ => (P0_ k_ ∨ w.heap.size ≤ k_) ∧ k_ ≠ gb137) (.slice (some ad136) l0.length c0) l0) := ⟨(by rw [hw]; exact (by (with_reducible repeat (first | apply Kd.V_alloc | apply Kd.V_drewN | apply Kd.V_drew)); exact Kd.V_mono (Kd.V_far (p := ⟨gb137, 10, none⟩) (Kd.V_far (p := ⟨gb137, 9, none⟩) (Kd.V_far (p := ⟨gb137, 8, none⟩) (Kd.V_far (p := ⟨gb137, 7, none⟩) (Kd.V_far (p := ⟨gb137, 6, none⟩) (Kd.V_far (p := ⟨gb137, 5, none⟩) (Kd.V_far (p := ⟨gb137, 4, none⟩) (Kd.V_far (p := ⟨gb137, 3, none⟩) (Kd.V_far (p := ⟨gb137, 2, none⟩) (Kd.V_far (p := ⟨gb137, 1, none⟩) (Kd.V_far (p := ⟨gb137, 0, none⟩) (Kd.V_mono HO_5.out (fun k_ hk => (⟨hk, hk.2⟩ : _ ∧ k_ ≠ gb137))) (fun _ hk => hk.2) (.int .i64 ((rd_T37 l0 x7_1).f0))) (fun _ hk => hk.2) (.string ((rd_T37 l0 x7_1).f1.f0))) (fun _ hk => hk.2) (.int .u64 ((rd_T37 l0 x7_1).f1.f1.f0))) (fun _ hk => hk.2) (.int .u32 ((rd_T37 l0 x7_1).f1.f1.f1))) (fun _ hk => hk.2) (.int .u8 ((rd_T37 l0 x7_1).f1.f1.f2))) (fun _ hk => hk.2) (.int .u8 ((rd_T37 l0 x7_1).f1.f2))) (fun _ hk => hk.2) (.int .u32 ((rd_T37 l0 x7_1).f1.f3))) (fun _ hk => hk.2) (.int .u64 ((rd_T37 l0 x7_1).f1.f4))) (fun _ hk => hk.2) (.string ((rd_T37 l0 x7_1).f1.f5))) (fun _ hk => hk.2) (.int .u8 ((rd_T37 l0 x7_1).f2))) (fun _ hk => hk.2) (.slice A136_10 ((rd_T37 l0 x7_1).f3).length c136_10)) (fun _ hk => ⟨hk.1.1, hk.1.2⟩)))⟩; have n2_ : Aside0 (Kd.V (Kd.int .u8) 5 w25 w.heap.size (fun k_ => (P0_ k_ ∨ w.heap.size ≤ k_) ∧ k_ ≠ gb137) (.slice A136_10 ((rd_T37 l0 x7_1).f3).length c136_10) ((rd_T37 l0 x7_1).f3)) := ⟨(by rw [hw]; exact (by (with_reducible repeat (first | apply Kd.V_alloc | apply Kd.V_drewN | apply Kd.V_drew)); exact Kd.V_mono (Kd.V_far (p := ⟨gb137, 10, none⟩) (Kd.V_far (p := ⟨gb137, 9, none⟩) (Kd.V_far (p := ⟨gb137, 8, none⟩) (Kd.V_far (p := ⟨gb137, 7, none⟩) (Kd.V_far (p := ⟨gb137, 6, none⟩) (Kd.V_far (p := ⟨gb137, 5, none⟩) (Kd.V_far (p := ⟨gb137, 4, none⟩) (Kd.V_far (p := ⟨gb137, 3, none⟩) (Kd.V_far (p := ⟨gb137, 2, none⟩) (Kd.V_far (p := ⟨gb137, 1, none⟩) (Kd.V_far (p := ⟨gb137, 0, none⟩) (Kd.V_mono HL136_10.out (fun k_ hk => (⟨hk, hk.2⟩ : _ ∧ k_ ≠ gb137))) (fun _ hk => hk.2) (.int .i64 ((rd_T37 l0 x7_1).f0))) (fun _ hk => hk.2) (.string ((rd_T37 l0 x7_1).f1.f0))) (fun _ hk => hk.2) (.int .u64 ((rd_T37 l0 x7_1).f1.f1.f0))) (fun _ hk => hk.2) (.int .u32 ((rd_T37 l0 x7_1).f1.f1.f1))) (fun _ hk => hk.2) (.int .u8 ((rd_T37 l0 x7_1).f1.f1.f2))) (fun _ hk => hk.2) (.int .u8 ((rd_T37 l0 x7_1).f1.f2))) (fun _ hk => hk.2) (.int .u32 ((rd_T37 l0 x7_1).f1.f3))) (fun _ hk => hk.2) (.int .u64 ((rd_T37 l0 x7_1).f1.f4))) (fun _ hk => hk.2) (.string ((rd_T37 l0 x7_1).f1.f5))) (fun _ hk => hk.2) (.int .u8 ((rd_T37 l0 x7_1).f2))) (fun _ hk => hk.2) (.slice A136_10 ((rd_T37 l0 x7_1).f3).length c136_10)) (fun _ hk => ⟨hk.1.1, hk.1.2⟩)))⟩; have n3_ : Aside0 (w25.heap[gb137]? = some (.cells #[.int .i64 ((rd_T37 l0 x7_1).f0), .string ((rd_T37 l0 x7_1).f1.f0), .int .u64 ((rd_T37 l0 x7_1).f1.f1.f0), .int .u32 ((rd_T37 l0 x7_1).f1.f1.f1), .int .u8 ((rd_T37 l0 x7_1).f1.f1.f2), .int .u8 ((rd_T37 l0 x7_1).f1.f2), .int .u32 ((rd_T37 l0 x7_1).f1.f3), .int .u64 ((rd_T37 l0 x7_1).f1.f4), .string ((rd_T37 l0 x7_1).f1.f5), .int .u8 ((rd_T37 l0 x7_1).f2), .slice A136_10 ((rd_T37 l0 x7_1).f3).length c136_10] 37 (0, 0))) := ⟨(by rw [hw]; exact (by (with_reducible repeat (first | refine blk_drewN ?_ _ | refine blk_drew ?_ | refine blk_alloc ?_ _)); refine blk_put (cs := #[.int .i64 ((rd_T37 l0 x7_1).f0), .string ((rd_T37 l0 x7_1).f1.f0), .int .u64 ((rd_T37 l0 x7_1).f1.f1.f0), .int .u32 ((rd_T37 l0 x7_1).f1.f1.f1), .int .u8 ((rd_T37 l0 x7_1).f1.f1.f2), .int .u8 ((rd_T37 l0 x7_1).f1.f2), .int .u32 ((rd_T37 l0 x7_1).f1.f3), .int .u64 ((rd_T37 l0 x7_1).f1.f4), .string ((rd_T37 l0 x7_1).f1.f5), .int .u8 ((rd_T37 l0 x7_1).f2), .slice none 0 0]) ?_ 10 _ rfl; (with_reducible repeat (first | refine blk_drewN ?_ _ | refine blk_drew ?_ | refine blk_alloc ?_ _)); refine blk_put (cs := #[.int .i64 ((rd_T37 l0 x7_1).f0), .string ((rd_T37 l0 x7_1).f1.f0), .int .u64 ((rd_T37 l0 x7_1).f1.f1.f0), .int .u32 ((rd_T37 l0 x7_1).f1.f1.f1), .int .u8 ((rd_T37 l0 x7_1).f1.f1.f2), .int .u8 ((rd_T37 l0 x7_1).f1.f2), .int .u32 ((rd_T37 l0 x7_1).f1.f3), .int .u64 ((rd_T37 l0 x7_1).f1.f4), .string ((rd_T37 l0 x7_1).f1.f5), .int .u8 0, .slice none 0 0]) ?_ 9 _ rfl; (with_reducible repeat (first | refine blk_drewN ?_ _ | refine blk_drew ?_ | refine blk_alloc ?_ _)); refine blk_put (cs := #[.int .i64 ((rd_T37 l0 x7_1).f0), .string ((rd_T37 l0 x7_1).f1.f0), .int .u64 ((rd_T37 l0 x7_1).f1.f1.f0), .int .u32 ((rd_T37 l0 x7_1).f1.f1.f1), .int .u8 ((rd_T37 l0 x7_1).f1.f1.f2), .int .u8 ((rd_T37 l0 x7_1).f1.f2), .int .u32 ((rd_T37 l0 x7_1).f1.f3), .int .u64 ((rd_T37 l0 x7_1).f1.f4), .string (⟨#[]⟩ : ByteArray), .int .u8 0, .slice none 0 0]) ?_ 8 _ rfl; (with_reducible repeat (first | refine blk_drewN ?_ _ | refine blk_drew ?_ | refine blk_alloc ?_ _)); refine blk_put (cs := #[.int .i64 ((rd_T37 l0 x7_1).f0), .string ((rd_T37 l0 x7_1).f1.f0), .int .u64 ((rd_T37 l0 x7_1).f1.f1.f0), .int .u32 ((rd_T37 l0 x7_1).f1.f1.f1), .int .u8 ((rd_T37 l0 x7_1).f1.f1.f2), .int .u8 ((rd_T37 l0 x7_1).f1.f2), .int .u32 ((rd_T37 l0 x7_1).f1.f3), .int .u64 0, .string (⟨#[]⟩ : ByteArray), .int .u8 0, .slice none 0 0]) ?_ 7 _ rfl; (with_reducible repeat (first | refine blk_drewN ?_ _ | refine blk_drew ?_ | refine blk_alloc ?_ _)); refine blk_put (cs := #[.int .i64 ((rd_T37 l0 x7_1).f0), .string ((rd_T37 l0 x7_1).f1.f0), .int .u64 ((rd_T37 l0 x7_1).f1.f1.f0), .int .u32 ((rd_T37 l0 x7_1).f1.f1.f1), .int .u8 ((rd_T37 l0 x7_1).f1.f1.f2), .int .u8 ((rd_T37 l0 x7_1).f1.f2), .int .u32 0, .int .u64 0, .string (⟨#[]⟩ : ByteArray), .int .u8 0, .slice none 0 0]) ?_ 6 _ rfl; (with_reducible repeat (first | refine blk_drewN ?_ _ | refine blk_drew ?_ | refine blk_alloc ?_ _)); refine blk_put (cs := #[.int .i64 ((rd_T37 l0 x7_1).f0), .string ((rd_T37 l0 x7_1).f1.f0), .int .u64 ((rd_T37 l0 x7_1).f1.f1.f0), .int .u32 ((rd_T37 l0 x7_1).f1.f1.f1), .int .u8 ((rd_T37 l0 x7_1).f1.f1.f2), .int .u8 0, .int .u32 0, .int .u64 0, .string (⟨#[]⟩ : ByteArray), .int .u8 0, .slice none 0 0]) ?_ 5 _ rfl; (with_reducible repeat (first | refine blk_drewN ?_ _ | refine blk_drew ?_ | refine blk_alloc ?_ _)); refine blk_put (cs := #[.int .i64 ((rd_T37 l0 x7_1).f0), .string ((rd_T37 l0 x7_1).f1.f0), .int .u64 ((rd_T37 l0 x7_1).f1.f1.f0), .int .u32 ((rd_T37 l0 x7_1).f1.f1.f1), .int .u8 0, .int .u8 0, .int .u32 0, .int .u64 0, .string (⟨#[]⟩ : ByteArray), .int .u8 0, .slice none 0 0]) ?_ 4 _ rfl; (with_reducible repeat (first | refine blk_drewN ?_ _ | refine blk_drew ?_ | refine blk_alloc ?_ _)); refine blk_put (cs := #[.int .i64 ((rd_T37 l0 x7_1).f0), .string ((rd_T37 l0 x7_1).f1.f0), .int .u64 ((rd_T37 l0 x7_1).f1.f1.f0), .int .u32 0, .int .u8 0, .int .u8 0, .int .u32 0, .int .u64 0, .string (⟨#[]⟩ : ByteArray), .int .u8 0, .slice none 0 0]) ?_ 3 _ rfl; (with_reducible repeat (first | refine blk_drewN ?_ _ | refine blk_drew ?_ | refine blk_alloc ?_ _)); refine blk_put (cs := #[.int .i64 ((rd_T37 l0 x7_1).f0), .string ((rd_T37 l0 x7_1).f1.f0), .int .u64 0, .int .u32 0, .int .u8 0, .int .u8 0, .int .u32 0, .int .u64 0, .string (⟨#[]⟩ : ByteArray), .int .u8 0, .slice none 0 0]) ?_ 2 _ rfl; (with_reducible repeat (first | refine blk_drewN ?_ _ | refine blk_drew ?_ | refine blk_alloc ?_ _)); refine blk_put (cs := #[.int .i64 ((rd_T37 l0 x7_1).f0), .string (⟨#[]⟩ : ByteArray), .int .u64 0, .int .u32 0, .int .u8 0, .int .u8 0, .int .u32 0, .int .u64 0, .string (⟨#[]⟩ : ByteArray), .int .u8 0, .slice none 0 0]) ?_ 1 _ rfl; (with_reducible repeat (first | refine blk_drewN ?_ _ | refine blk_drew ?_ | refine blk_alloc ?_ _)); refine blk_put (cs := #[.int .i64 0, .string (⟨#[]⟩ : ByteArray), .int .u64 0, .int .u32 0, .int .u8 0, .int .u8 0, .int .u32 0, .int .u64 0, .string (⟨#[]⟩ : ByteArray), .int .u8 0, .slice none 0 0]) ?_ 0 _ rfl; (with_reducible repeat (first | refine blk_drewN ?_ _ | refine blk_drew ?_ | refine blk_alloc ?_ _)); exact BK137.out))⟩; have n4_ : Aside0 (Below w.heap.size w w25) := ⟨(by rw [hw]; exact (by repeat (first | (with_reducible first | exact HB.out | apply below_alloc | apply pw_below_drewN | apply below_drew1 | refine below_set ?_ GE137.out) | exact HB.out)))⟩; clear hw; clear HO_0; clear HO_5; clear HL136_10; clear BK137; clear HB; have HO_0 := n0_; have HO_5 := n1_; have HL136_10 := n2_; have BK137 := n3_; have HB := n4_; clear n0_ n1_ n2_ n3_ n4_; have hcz26_0 : w25.cell? ⟨gb137, 0, none⟩ = some (.int .i64 ((rd_T37 l0 x7_1).f0)) := (blk_cell BK137.out 0).trans rfl; have hcz26_1 : w25.cell? ⟨gb137, 1, none⟩ = some (.string ((rd_T37 l0 x7_1).f1.f0)) := (blk_cell BK137.out 1).trans rfl; have hcz26_2 : w25.cell? ⟨gb137, 2, none⟩ = some (.int .u64 ((rd_T37 l0 x7_1).f1.f1.f0)) := (blk_cell BK137.out 2).trans rfl; have hcz26_3 : w25.cell? ⟨gb137, 3, none⟩ = some (.int .u32 ((rd_T37 l0 x7_1).f1.f1.f1)) := (blk_cell BK137.out 3).trans rfl; have hcz26_4 : w25.cell? ⟨gb137, 4, none⟩ = some (.int .u8 ((rd_T37 l0 x7_1).f1.f1.f2)) := (blk_cell BK137.out 4).trans rfl; have hcz26_5 : w25.cell? ⟨gb137, 5, none⟩ = some (.int .u8 ((rd_T37 l0 x7_1).f1.f2)) := (blk_cell BK137.out 5).trans rfl; have hcz26_6 : w25.cell? ⟨gb137, 6, none⟩ = some (.int .u32 ((rd_T37 l0 x7_1).f1.f3)) := (blk_cell BK137.out 6).trans rfl; have hcz26_7 : w25.cell? ⟨gb137, 7, none⟩ = some (.int .u64 ((rd_T37 l0 x7_1).f1.f4)) := (blk_cell BK137.out 7).trans rfl; have hcz26_8 : w25.cell? ⟨gb137, 8, none⟩ = some (.string ((rd_T37 l0 x7_1).f1.f5)) := (blk_cell BK137.out 8).trans rfl; have hcz26_9 : w25.cell? ⟨gb137, 9, none⟩ = some (.int .u8 ((rd_T37 l0 x7_1).f2)) := (blk_cell BK137.out 9).trans rfl; have hcz26_10 : w25.cell? ⟨gb137, 10, none⟩ = some (.slice A136_10 ((rd_T37 l0 x7_1).f3).length c136_10) := (blk_cell BK137.out 10).trans rfl; have hfz26_0 := blk_frozen BK137.out 0; have hfz26_1 := blk_frozen BK137.out 1; have hfz26_2 := blk_frozen BK137.out 2; have hfz26_3 := blk_frozen BK137.out 3; have hfz26_4 := blk_frozen BK137.out 4; have hfz26_5 := blk_frozen BK137.out 5; have hfz26_6 := blk_frozen BK137.out 6; have hfz26_7 := blk_frozen BK137.out 7; have hfz26_8 := blk_frozen BK137.out 8; have hfz26_9 := blk_frozen BK137.out 9; have hfz26_10 := blk_frozen BK137.out 10; have q27 : (x7_1 : Int) ≤ ((l0.length : Int) : Int) := of_decide_eq_true (by first | (with_reducible assumption) | assumption); obtain ⟨i027, hi027, _, hsz27, _⟩ := info_parts info37; have hroom27 : l0.length ≤ c0 := (Kd.V_reads' HO_0.out).2.1; have hC27 : Kd.F k37 _ _ (some ad136) l0.length l0 := (Kd.V_at (base := w.heap.size) HO_0.out).2.2; have hcut27 := cut_to (P := Try.prog) 22 37 .i64 Try.underlying22 hi027 (some ad136) l0.length c0 x7_1 (of_decide_eq_true (by first | (with_reducible assumption) | assumption)) q27 hroom27; have hr27 := Kd.F_take (m := (x7_1 : Int).toNat) hC27 (by omega); have hy27 : y148.length = (x7_1 : Int).toNat := (by rw [Ny148.out, List.length_take]; omega); rw [← Ny148.out] at hr27; rw [← hy27] at hcut27; have HO152 := Aside0.mk (show Kd.V k37 37 _ w.heap.size _ (.slice (some ad136) y148.length c0) y148 from Kd.V_mk (by omega) hr27); have HC152 := Aside0.mk (show y148.length ≤ c0 from by omega); clear hr27 hC27 hroom27 hi027 hsz27; have KY27 := Aside0.mk hy27; clear hy27; replace q27 := eq_true q27))
                    go_ret
                    exact ⟨_, by first | rfl | (simp [errW_none, errW_some] <;> rfl) | (simp [*, errW_none, errW_some] <;> rfl), by (with_reducible repeat (first | apply Kd.V_alloc | apply Kd.V_drewN | apply Kd.V_drew)); exact Kd.V_mono HO152.out (fun _ hk => hk.1), by repeat (first | (with_reducible first | exact HB.out | apply below_alloc | apply pw_below_drewN | apply below_drew1 | refine below_set ?_ GE137.out) | exact HB.out)⟩
                  · rw [if_neg c22] at H
                    exact absurd H (by simp)
                · rw [if_neg c20] at H
                  have c20b0 : decide (3000 < (((rd_T37 l0 x7_1).f1.f5).size : Int)) = false := decide_eq_false c20
                  have c20b1 : decide (3000 < ((rd_T37 l0 x7_1).f1.f5).size) = false := decide_eq_false (by omega)
                  clear c20
                  by_cases c28 : (((rd_T37 l0 x7_1).f3).length : Int) > 100
                  · rw [if_pos c28] at H
                    have c28b0 : decide (100 < (((rd_T37 l0 x7_1).f3).length : Int)) = true := decide_eq_true c28
                    have c28b1 : decide (100 < ((rd_T37 l0 x7_1).f3).length) = true := decide_eq_true (by omega)
                    clear c28
                    have c29b0 := eq_true (of_decide_eq_true (by first | (with_reducible assumption) | assumption) : 0 ≤ x7_1)
                    by_cases c30 : x7_1 ≤ (l0.length : Int)
                    · rw [if_pos c30] at H
                      have c30b0 := eq_true c30
                      have c30b1 : decide (x7_1 ≤ (l0.length : Int)) = true := decide_eq_true c30
                      clear c30
                      obtain ⟨y153, hy153⟩ : ∃ y_ : List (S37), y_ = (l0.take (x7_1 : Int).toNat) := ⟨_, rfl⟩
                      replace H : (some y153) = some r := by first | (rw [hy153]; with_reducible exact H) | (have H2_ := (Option.bind_some _ _).symm.trans H; rw [hy153]; with_reducible exact H2_) | (have H2_ := (Option.bind_some _ _).symm.trans H; with_reducible exact H2_) | with_reducible exact H | (rw [hy153]; exact H) | exact H
                      have Ny153 := Aside0.mk hy153
                      clear hy153
                      obtain rfl := Option.some.inj H
                      have p136 : 0 ≤ (x7_1 : Int) := of_decide_eq_true (by first | (with_reducible assumption) | assumption)
                      have q136 : x7_1 < (l0.length : Int) := of_decide_eq_true (by first | (with_reducible assumption) | assumption)
                      obtain ⟨ad136, A136_10, c136_10, e136, hx136_0, hx136_1, hx136_2, hx136_3, hx136_4, hx136_5, hx136_6, hx136_7, hx136_8, hx136_9, hx136_10, hl136_10, hi136_10⟩ := at_T37 (Kd.V_reads' HO_5.out).2.2 x7_1 p136 q136
                      cases e136
                      obtain ⟨ce136, hce136, hMe136, hcc136⟩ := Kd.V_get HO_5.out z37 x7_1 p136 (by first | exact q136 | exact of_decide_eq_true (by first | (with_reducible assumption) | assumption) | (have e_ := (Kd.V_reads' HO_5.out).1; omega))
                      obtain ⟨ua136_10, uc136_10, rfl, ul136_10, ge136_10⟩ := k37_openF hMe136
                      have hv136_10 := hcc136 10 _ rfl
                      rw [add_field _ _ 10 (by omega)] at hv136_10
                      replace hv136_10 := Option.some.inj (hv136_10.symm.trans hx136_10)
                      injection hv136_10 with hva_ hvn_ hvc_
                      rw [hva_] at ge136_10
                      rw [hvc_] at ul136_10
                      have HL136_10 := Aside0.mk (show Kd.V (Kd.int .u8) 5 _ w.heap.size _ _ ((rd_T37 l0 x7_1).f3) from Kd.V_mk ul136_10 ge136_10)
                      clear hva_ hvn_ hvc_ ge136_10 ul136_10
                      clear hcc136 hce136
                      have HR136_10 := Aside0.mk hi136_10
                      have HC136_10 := Aside0.mk hl136_10
                      clear hi136_10 hl136_10
                      replace p136 := eq_true p136
                      replace q136 := eq_true q136
                      go_wp2_with (first | ((with_reducible refine gate_dst (N := 4) rfl ?_); (try (refine gate_guard (by rfl) ?_; dsimp only)); refine box_event ?hg (N := 4) ?hd (cs := #[.int .i64 0, .string (⟨#[]⟩ : ByteArray), .int .u64 0, .int .u32 0, .int .u8 0, .int .u8 0, .int .u32 0, .int .u64 0, .string (⟨#[]⟩ : ByteArray), .int .u8 0, .slice none 0 0]) (t := 37) ?hr ?_; (case hd => rfl); (case hg => rfl); (case hr => first | (go_simp; done) | (go_simp; rfl)); intro gb137 hg w31 hbox hb; have n0_ := Aside0.mk (Kd.V_below (Kd.V_elderB (by (with_reducible repeat (first | apply Kd.V_alloc | apply Kd.V_drewN | apply Kd.V_drew)); exact HO_0.out) gb137 (Nat.le_of_eq hg.symm)) hb); have n1_ := Aside0.mk (Kd.V_below (Kd.V_elderB (by (with_reducible repeat (first | apply Kd.V_alloc | apply Kd.V_drewN | apply Kd.V_drew)); exact HO_5.out) gb137 (Nat.le_of_eq hg.symm)) hb); have n2_ := Aside0.mk (Kd.V_below (Kd.V_elderB (by (with_reducible repeat (first | apply Kd.V_alloc | apply Kd.V_drewN | apply Kd.V_drew)); exact HL136_10.out) gb137 (Nat.le_of_eq hg.symm)) hb); have n3_ := Aside0.mk (Kd.C_below (by repeat (first | (with_reducible exact HR136_10.out) | (with_reducible refine Kd.C_alloc ?_ _) | (with_reducible refine Kd.C_drewN ?_ _) | (with_reducible refine Kd.C_drew ?_) | exact HR136_10.out)) hb); have n4_ := Aside0.mk (below_step (by repeat (first | (with_reducible first | exact HB.out | apply below_alloc | apply pw_below_drewN | apply below_drew1) | exact HB.out)) hb); have n5_ := Aside0.mk (hbox); have n6_ := Aside0.mk ((by rw [hg]; exact (below_size (by repeat (first | (with_reducible first | exact HB.out | apply below_alloc | apply pw_below_drewN | apply below_drew1) | exact HB.out))) : w.heap.size ≤ gb137)); have n7_ := Aside0.mk ((by rw [hg]; exact (below_size (by repeat (first | (with_reducible first | exact HB.out | apply below_alloc | apply pw_below_drewN | apply below_drew1) | exact HB.out))) : w.heap.size ≤ gb137)); clear HO_0; clear HO_5; clear HL136_10; clear HR136_10; clear HB; have HO_0 := n0_; have HO_5 := n1_; have HL136_10 := n2_; have HR136_10 := n3_; have HB := n4_; have BK137 := n5_; have GW137 := n6_; have GE137 := n7_; clear n0_ n1_ n2_ n3_ n4_ n5_ n6_ n7_; clear hb hbox hg; have hcz32_0 : w31.cell? ⟨gb137, 0, none⟩ = some (.int .i64 0) := (blk_cell BK137.out 0).trans rfl; have hcz32_1 : w31.cell? ⟨gb137, 1, none⟩ = some (.string (⟨#[]⟩ : ByteArray)) := (blk_cell BK137.out 1).trans rfl; have hcz32_2 : w31.cell? ⟨gb137, 2, none⟩ = some (.int .u64 0) := (blk_cell BK137.out 2).trans rfl; have hcz32_3 : w31.cell? ⟨gb137, 3, none⟩ = some (.int .u32 0) := (blk_cell BK137.out 3).trans rfl; have hcz32_4 : w31.cell? ⟨gb137, 4, none⟩ = some (.int .u8 0) := (blk_cell BK137.out 4).trans rfl; have hcz32_5 : w31.cell? ⟨gb137, 5, none⟩ = some (.int .u8 0) := (blk_cell BK137.out 5).trans rfl; have hcz32_6 : w31.cell? ⟨gb137, 6, none⟩ = some (.int .u32 0) := (blk_cell BK137.out 6).trans rfl; have hcz32_7 : w31.cell? ⟨gb137, 7, none⟩ = some (.int .u64 0) := (blk_cell BK137.out 7).trans rfl; have hcz32_8 : w31.cell? ⟨gb137, 8, none⟩ = some (.string (⟨#[]⟩ : ByteArray)) := (blk_cell BK137.out 8).trans rfl; have hcz32_9 : w31.cell? ⟨gb137, 9, none⟩ = some (.int .u8 0) := (blk_cell BK137.out 9).trans rfl; have hcz32_10 : w31.cell? ⟨gb137, 10, none⟩ = some (.slice none 0 0) := (blk_cell BK137.out 10).trans rfl; have hfz32_0 := blk_frozen BK137.out 0; have hfz32_1 := blk_frozen BK137.out 1; have hfz32_2 := blk_frozen BK137.out 2; have hfz32_3 := blk_frozen BK137.out 3; have hfz32_4 := blk_frozen BK137.out 4; have hfz32_5 := blk_frozen BK137.out 5; have hfz32_6 := blk_frozen BK137.out 6; have hfz32_7 := blk_frozen BK137.out 7; have hfz32_8 := blk_frozen BK137.out 8; have hfz32_9 := blk_frozen BK137.out 9; have hfz32_10 := blk_frozen BK137.out 10) | ((with_reducible refine gate_store (t := 37) (p := 4) rfl ?_); refine store_event (t := 37) (p := 4) (v := ?vo_w33) (w1 := (((((((((((w31.setCell ⟨gb137, 0, none⟩ (.int .i64 ((rd_T37 l0 x7_1).f0))).setCell ⟨gb137, 1, none⟩ (.string ((rd_T37 l0 x7_1).f1.f0))).setCell ⟨gb137, 2, none⟩ (.int .u64 ((rd_T37 l0 x7_1).f1.f1.f0))).setCell ⟨gb137, 3, none⟩ (.int .u32 ((rd_T37 l0 x7_1).f1.f1.f1))).setCell ⟨gb137, 4, none⟩ (.int .u8 ((rd_T37 l0 x7_1).f1.f1.f2))).setCell ⟨gb137, 5, none⟩ (.int .u8 ((rd_T37 l0 x7_1).f1.f2))).setCell ⟨gb137, 6, none⟩ (.int .u32 ((rd_T37 l0 x7_1).f1.f3))).setCell ⟨gb137, 7, none⟩ (.int .u64 ((rd_T37 l0 x7_1).f1.f4))).setCell ⟨gb137, 8, none⟩ (.string ((rd_T37 l0 x7_1).f1.f5))).setCell ⟨gb137, 9, none⟩ (.int .u8 ((rd_T37 l0 x7_1).f2))).setCell ⟨gb137, 10, none⟩ (.slice A136_10 ((rd_T37 l0 x7_1).f3).length c136_10))) ?hg ?ho ?hn ?hr ?_; (case ho => rfl); (case hg => rfl); (case hn => rfl); (case hr => first | (go_simp; done) | (go_simp; rfl)); intro w33 hw; have n0_ : Aside0 (Kd.V k37 37 w33 w.heap.size (fun k_ => (P0_ k_ ∨ w.heap.size ≤ k_) ∧ k_ ≠ gb137) (.slice (some ad136) l0.length c0) l0) := ⟨(by rw [hw]; exact (by (with_reducible repeat (first | apply Kd.V_alloc | apply Kd.V_drewN | apply Kd.V_drew)); exact Kd.V_mono (Kd.V_far (p := ⟨gb137, 10, none⟩) (Kd.V_far (p := ⟨gb137, 9, none⟩) (Kd.V_far (p := ⟨gb137, 8, none⟩) (Kd.V_far (p := ⟨gb137, 7, none⟩) (Kd.V_far (p := ⟨gb137, 6, none⟩) (Kd.V_far (p := ⟨gb137, 5, none⟩) (Kd.V_far (p := ⟨gb137, 4, none⟩) (Kd.V_far (p := ⟨gb137, 3, none⟩) (Kd.V_far (p := ⟨gb137, 2, none⟩) (Kd.V_far (p := ⟨gb137, 1, none⟩) (Kd.V_far (p := ⟨gb137, 0, none⟩) (Kd.V_mono HO_0.out (fun k_ hk => (⟨hk, hk.2⟩ : _ ∧ k_ ≠ gb137))) (fun _ hk => hk.2) (.int .i64 ((rd_T37 l0 x7_1).f0))) (fun _ hk => hk.2) (.string ((rd_T37 l0 x7_1).f1.f0))) (fun _ hk => hk.2) (.int .u64 ((rd_T37 l0 x7_1).f1.f1.f0))) (fun _ hk => hk.2) (.int .u32 ((rd_T37 l0 x7_1).f1.f1.f1))) (fun _ hk => hk.2) (.int .u8 ((rd_T37 l0 x7_1).f1.f1.f2))) (fun _ hk => hk.2) (.int .u8 ((rd_T37 l0 x7_1).f1.f2))) (fun _ hk => hk.2) (.int .u32 ((rd_T37 l0 x7_1).f1.f3))) (fun _ hk => hk.2) (.int .u64 ((rd_T37 l0 x7_1).f1.f4))) (fun _ hk => hk.2) (.string ((rd_T37 l0 x7_1).f1.f5))) (fun _ hk => hk.2) (.int .u8 ((rd_T37 l0 x7_1).f2))) (fun _ hk => hk.2) (.slice A136_10 ((rd_T37 l0 x7_1).f3).length c136_10)) (fun _ hk => ⟨hk.1.1, hk.1.2⟩)))⟩; have n1_ : Aside0 (Kd.V k37 37 w33 w.heap.size (fun k_ => (P0_ k_ ∨ w.heap.size ≤ k_) ∧ k_ ≠ gb137) (.slice (some ad136) l0.length c0) l0) := ⟨(by rw [hw]; exact (by (with_reducible repeat (first | apply Kd.V_alloc | apply Kd.V_drewN | apply Kd.V_drew)); exact Kd.V_mono (Kd.V_far (p := ⟨gb137, 10, none⟩) (Kd.V_far (p := ⟨gb137, 9, none⟩) (Kd.V_far (p := ⟨gb137, 8, none⟩) (Kd.V_far (p := ⟨gb137, 7, none⟩) (Kd.V_far (p := ⟨gb137, 6, none⟩) (Kd.V_far (p := ⟨gb137, 5, none⟩) (Kd.V_far (p := ⟨gb137, 4, none⟩) (Kd.V_far (p := ⟨gb137, 3, none⟩) (Kd.V_far (p := ⟨gb137, 2, none⟩) (Kd.V_far (p := ⟨gb137, 1, none⟩) (Kd.V_far (p := ⟨gb137, 0, none⟩) (Kd.V_mono HO_5.out (fun k_ hk => (⟨hk, hk.2⟩ : _ ∧ k_ ≠ gb137))) (fun _ hk => hk.2) (.int .i64 ((rd_T37 l0 x7_1).f0))) (fun _ hk => hk.2) (.string ((rd_T37 l0 x7_1).f1.f0))) (fun _ hk => hk.2) (.int .u64 ((rd_T37 l0 x7_1).f1.f1.f0))) (fun _ hk => hk.2) (.int .u32 ((rd_T37 l0 x7_1).f1.f1.f1))) (fun _ hk => hk.2) (.int .u8 ((rd_T37 l0 x7_1).f1.f1.f2))) (fun _ hk => hk.2) (.int .u8 ((rd_T37 l0 x7_1).f1.f2))) (fun _ hk => hk.2) (.int .u32 ((rd_T37 l0 x7_1).f1.f3))) (fun _ hk => hk.2) (.int .u64 ((rd_T37 l0 x7_1).f1.f4))) (fun _ hk => hk.2) (.string ((rd_T37 l0 x7_1).f1.f5))) (fun _ hk => hk.2) (.int .u8 ((rd_T37 l0 x7_1).f2))) (fun _ hk => hk.2) (.slice A136_10 ((rd_T37 l0 x7_1).f3).length c136_10)) (fun _ hk => ⟨hk.1.1, hk.1.2⟩)))⟩; have n2_ : Aside0 (Kd.V (Kd.int .u8) 5 w33 w.heap.size (fun k_ => (P0_ k_ ∨ w.heap.size ≤ k_) ∧ k_ ≠ gb137) (.slice A136_10 ((rd_T37 l0 x7_1).f3).length c136_10) ((rd_T37 l0 x7_1).f3)) := ⟨(by rw [hw]; exact (by (with_reducible repeat (first | apply Kd.V_alloc | apply Kd.V_drewN | apply Kd.V_drew)); exact Kd.V_mono (Kd.V_far (p := ⟨gb137, 10, none⟩) (Kd.V_far (p := ⟨gb137, 9, none⟩) (Kd.V_far (p := ⟨gb137, 8, none⟩) (Kd.V_far (p := ⟨gb137, 7, none⟩) (Kd.V_far (p := ⟨gb137, 6, none⟩) (Kd.V_far (p := ⟨gb137, 5, none⟩) (Kd.V_far (p := ⟨gb137, 4, none⟩) (Kd.V_far (p := ⟨gb137, 3, none⟩) (Kd.V_far (p := ⟨gb137, 2, none⟩) (Kd.V_far (p := ⟨gb137, 1, none⟩) (Kd.V_far (p := ⟨gb137, 0, none⟩) (Kd.V_mono HL136_10.out (fun k_ hk => (⟨hk, hk.2⟩ : _ ∧ k_ ≠ gb137))) (fun _ hk => hk.2) (.int .i64 ((rd_T37 l0 x7_1).f0))) (fun _ hk => hk.2) (.string ((rd_T37 l0 x7_1).f1.f0))) (fun _ hk => hk.2) (.int .u64 ((rd_T37 l0 x7_1).f1.f1.f0))) (fun _ hk => hk.2) (.int .u32 ((rd_T37 l0 x7_1).f1.f1.f1))) (fun _ hk => hk.2) (.int .u8 ((rd_T37 l0 x7_1).f1.f1.f2))) (fun _ hk => hk.2) (.int .u8 ((rd_T37 l0 x7_1).f1.f2))) (fun _ hk => hk.2) (.int .u32 ((rd_T37 l0 x7_1).f1.f3))) (fun _ hk => hk.2) (.int .u64 ((rd_T37 l0 x7_1).f1.f4))) (fun _ hk => hk.2) (.string ((rd_T37 l0 x7_1).f1.f5))) (fun _ hk => hk.2) (.int .u8 ((rd_T37 l0 x7_1).f2))) (fun _ hk => hk.2) (.slice A136_10 ((rd_T37 l0 x7_1).f3).length c136_10)) (fun _ hk => ⟨hk.1.1, hk.1.2⟩)))⟩; have n3_ : Aside0 (w33.heap[gb137]? = some (.cells #[.int .i64 ((rd_T37 l0 x7_1).f0), .string ((rd_T37 l0 x7_1).f1.f0), .int .u64 ((rd_T37 l0 x7_1).f1.f1.f0), .int .u32 ((rd_T37 l0 x7_1).f1.f1.f1), .int .u8 ((rd_T37 l0 x7_1).f1.f1.f2), .int .u8 ((rd_T37 l0 x7_1).f1.f2), .int .u32 ((rd_T37 l0 x7_1).f1.f3), .int .u64 ((rd_T37 l0 x7_1).f1.f4), .string ((rd_T37 l0 x7_1).f1.f5), .int .u8 ((rd_T37 l0 x7_1).f2), .slice A136_10 ((rd_T37 l0 x7_1).f3).length c136_10] 37 (0, 0))) := ⟨(by rw [hw]; exact (by (with_reducible repeat (first | refine blk_drewN ?_ _ | refine blk_drew ?_ | refine blk_alloc ?_ _)); refine blk_put (cs := #[.int .i64 ((rd_T37 l0 x7_1).f0), .string ((rd_T37 l0 x7_1).f1.f0), .int .u64 ((rd_T37 l0 x7_1).f1.f1.f0), .int .u32 ((rd_T37 l0 x7_1).f1.f1.f1), .int .u8 ((rd_T37 l0 x7_1).f1.f1.f2), .int .u8 ((rd_T37 l0 x7_1).f1.f2), .int .u32 ((rd_T37 l0 x7_1).f1.f3), .int .u64 ((rd_T37 l0 x7_1).f1.f4), .string ((rd_T37 l0 x7_1).f1.f5), .int .u8 ((rd_T37 l0 x7_1).f2), .slice none 0 0]) ?_ 10 _ rfl; (with_reducible repeat (first | refine blk_drewN ?_ _ | refine blk_drew ?_ | refine blk_alloc ?_ _)); refine blk_put (cs := #[.int .i64 ((rd_T37 l0 x7_1).f0), .string ((rd_T37 l0 x7_1).f1.f0), .int .u64 ((rd_T37 l0 x7_1).f1.f1.f0), .int .u32 ((rd_T37 l0 x7_1).f1.f1.f1), .int .u8 ((rd_T37 l0 x7_1).f1.f1.f2), .int .u8 ((rd_T37 l0 x7_1).f1.f2), .int .u32 ((rd_T37 l0 x7_1).f1.f3), .int .u64 ((rd_T37 l0 x7_1).f1.f4), .string ((rd_T37 l0 x7_1).f1.f5), .int .u8 0, .slice none 0 0]) ?_ 9 _ rfl; (with_reducible repeat (first | refine blk_drewN ?_ _ | refine blk_drew ?_ | refine blk_alloc ?_ _)); refine blk_put (cs := #[.int .i64 ((rd_T37 l0 x7_1).f0), .string ((rd_T37 l0 x7_1).f1.f0), .int .u64 ((rd_T37 l0 x7_1).f1.f1.f0), .int .u32 ((rd_T37 l0 x7_1).f1.f1.f1), .int .u8 ((rd_T37 l0 x7_1).f1.f1.f2), .int .u8 ((rd_T37 l0 x7_1).f1.f2), .int .u32 ((rd_T37 l0 x7_1).f1.f3), .int .u64 ((rd_T37 l0 x7_1).f1.f4), .string (⟨#[]⟩ : ByteArray), .int .u8 0, .slice none 0 0]) ?_ 8 _ rfl; (with_reducible repeat (first | refine blk_drewN ?_ _ | refine blk_drew ?_ | refine blk_alloc ?_ _)); refine blk_put (cs := #[.int .i64 ((rd_T37 l0 x7_1).f0), .string ((rd_T37 l0 x7_1).f1.f0), .int .u64 ((rd_T37 l0 x7_1).f1.f1.f0), .int .u32 ((rd_T37 l0 x7_1).f1.f1.f1), .int .u8 ((rd_T37 l0 x7_1).f1.f1.f2), .int .u8 ((rd_T37 l0 x7_1).f1.f2), .int .u32 ((rd_T37 l0 x7_1).f1.f3), .int .u64 0, .string (⟨#[]⟩ : ByteArray), .int .u8 0, .slice none 0 0]) ?_ 7 _ rfl; (with_reducible repeat (first | refine blk_drewN ?_ _ | refine blk_drew ?_ | refine blk_alloc ?_ _)); refine blk_put (cs := #[.int .i64 ((rd_T37 l0 x7_1).f0), .string ((rd_T37 l0 x7_1).f1.f0), .int .u64 ((rd_T37 l0 x7_1).f1.f1.f0), .int .u32 ((rd_T37 l0 x7_1).f1.f1.f1), .int .u8 ((rd_T37 l0 x7_1).f1.f1.f2), .int .u8 ((rd_T37 l0 x7_1).f1.f2), .int .u32 0, .int .u64 0, .string (⟨#[]⟩ : ByteArray), .int .u8 0, .slice none 0 0]) ?_ 6 _ rfl; (with_reducible repeat (first | refine blk_drewN ?_ _ | refine blk_drew ?_ | refine blk_alloc ?_ _)); refine blk_put (cs := #[.int .i64 ((rd_T37 l0 x7_1).f0), .string ((rd_T37 l0 x7_1).f1.f0), .int .u64 ((rd_T37 l0 x7_1).f1.f1.f0), .int .u32 ((rd_T37 l0 x7_1).f1.f1.f1), .int .u8 ((rd_T37 l0 x7_1).f1.f1.f2), .int .u8 0, .int .u32 0, .int .u64 0, .string (⟨#[]⟩ : ByteArray), .int .u8 0, .slice none 0 0]) ?_ 5 _ rfl; (with_reducible repeat (first | refine blk_drewN ?_ _ | refine blk_drew ?_ | refine blk_alloc ?_ _)); refine blk_put (cs := #[.int .i64 ((rd_T37 l0 x7_1).f0), .string ((rd_T37 l0 x7_1).f1.f0), .int .u64 ((rd_T37 l0 x7_1).f1.f1.f0), .int .u32 ((rd_T37 l0 x7_1).f1.f1.f1), .int .u8 0, .int .u8 0, .int .u32 0, .int .u64 0, .string (⟨#[]⟩ : ByteArray), .int .u8 0, .slice none 0 0]) ?_ 4 _ rfl; (with_reducible repeat (first | refine blk_drewN ?_ _ | refine blk_drew ?_ | refine blk_alloc ?_ _)); refine blk_put (cs := #[.int .i64 ((rd_T37 l0 x7_1).f0), .string ((rd_T37 l0 x7_1).f1.f0), .int .u64 ((rd_T37 l0 x7_1).f1.f1.f0), .int .u32 0, .int .u8 0, .int .u8 0, .int .u32 0, .int .u64 0, .string (⟨#[]⟩ : ByteArray), .int .u8 0, .slice none 0 0]) ?_ 3 _ rfl; (with_reducible repeat (first | refine blk_drewN ?_ _ | refine blk_drew ?_ | refine blk_alloc ?_ _)); refine blk_put (cs := #[.int .i64 ((rd_T37 l0 x7_1).f0), .string ((rd_T37 l0 x7_1).f1.f0), .int .u64 0, .int .u32 0, .int .u8 0, .int .u8 0, .int .u32 0, .int .u64 0, .string (⟨#[]⟩ : ByteArray), .int .u8 0, .slice none 0 0]) ?_ 2 _ rfl; (with_reducible repeat (first | refine blk_drewN ?_ _ | refine blk_drew ?_ | refine blk_alloc ?_ _)); refine blk_put (cs := #[.int .i64 ((rd_T37 l0 x7_1).f0), .string (⟨#[]⟩ : ByteArray), .int .u64 0, .int .u32 0, .int .u8 0, .int .u8 0, .int .u32 0, .int .u64 0, .string (⟨#[]⟩ : ByteArray), .int .u8 0, .slice none 0 0]) ?_ 1 _ rfl; (with_reducible repeat (first | refine blk_drewN ?_ _ | refine blk_drew ?_ | refine blk_alloc ?_ _)); refine blk_put (cs := #[.int .i64 0, .string (⟨#[]⟩ : ByteArray), .int .u64 0, .int .u32 0, .int .u8 0, .int .u8 0, .int .u32 0, .int .u64 0, .string (⟨#[]⟩ : ByteArray), .int .u8 0, .slice none 0 0]) ?_ 0 _ rfl; (with_reducible repeat (first | refine blk_drewN ?_ _ | refine blk_drew ?_ | refine blk_alloc ?_ _)); exact BK137.out))⟩; have n4_ : Aside0 (Below w.heap.size w w33) := ⟨(by rw [hw]; exact (by repeat (first | (with_reducible first | exact HB.out | apply below_alloc | apply pw_below_drewN | apply below_drew1 | refine below_set ?_ GE137.out) | exact HB.out)))⟩; clear hw; clear HO_0; clear HO_5; clear HL136_10; clear BK137; clear HB; have HO_0 := n0_; have HO_5 := n1_; have HL136_10 := n2_; have BK137 := n3_; have HB := n4_; clear n0_ n1_ n2_ n3_ n4_; have hcz34_0 : w33.cell? ⟨gb137, 0, none⟩ = some (.int .i64 ((rd_T37 l0 x7_1).f0)) := (blk_cell BK137.out 0).trans rfl; have hcz34_1 : w33.cell? ⟨gb137, 1, none⟩ = some (.string ((rd_T37 l0 x7_1).f1.f0)) := (blk_cell BK137.out 1).trans rfl; have hcz34_2 : w33.cell? ⟨gb137, 2, none⟩ = some (.int .u64 ((rd_T37 l0 x7_1).f1.f1.f0)) := (blk_cell BK137.out 2).trans rfl; have hcz34_3 : w33.cell? ⟨gb137, 3, none⟩ = some (.int .u32 ((rd_T37 l0 x7_1).f1.f1.f1)) := (blk_cell BK137.out 3).trans rfl; have hcz34_4 : w33.cell? ⟨gb137, 4, none⟩ = some (.int .u8 ((rd_T37 l0 x7_1).f1.f1.f2)) := (blk_cell BK137.out 4).trans rfl; have hcz34_5 : w33.cell? ⟨gb137, 5, none⟩ = some (.int .u8 ((rd_T37 l0 x7_1).f1.f2)) := (blk_cell BK137.out 5).trans rfl; have hcz34_6 : w33.cell? ⟨gb137, 6, none⟩ = some (.int .u32 ((rd_T37 l0 x7_1).f1.f3)) := (blk_cell BK137.out 6).trans rfl; have hcz34_7 : w33.cell? ⟨gb137, 7, none⟩ = some (.int .u64 ((rd_T37 l0 x7_1).f1.f4)) := (blk_cell BK137.out 7).trans rfl; have hcz34_8 : w33.cell? ⟨gb137, 8, none⟩ = some (.string ((rd_T37 l0 x7_1).f1.f5)) := (blk_cell BK137.out 8).trans rfl; have hcz34_9 : w33.cell? ⟨gb137, 9, none⟩ = some (.int .u8 ((rd_T37 l0 x7_1).f2)) := (blk_cell BK137.out 9).trans rfl; have hcz34_10 : w33.cell? ⟨gb137, 10, none⟩ = some (.slice A136_10 ((rd_T37 l0 x7_1).f3).length c136_10) := (blk_cell BK137.out 10).trans rfl; have hfz34_0 := blk_frozen BK137.out 0; have hfz34_1 := blk_frozen BK137.out 1; have hfz34_2 := blk_frozen BK137.out 2; have hfz34_3 := blk_frozen BK137.out 3; have hfz34_4 := blk_frozen BK137.out 4; have hfz34_5 := blk_frozen BK137.out 5; have hfz34_6 := blk_frozen BK137.out 6; have hfz34_7 := blk_frozen BK137.out 7; have hfz34_8 := blk_frozen BK137.out 8; have hfz34_9 := blk_frozen BK137.out 9; have hfz34_10 := blk_frozen BK137.out 10; have q35 : (x7_1 : Int) ≤ ((l0.length : Int) : Int) := of_decide_eq_true (by first | (with_reducible assumption) | assumption); obtain ⟨i035, hi035, _, hsz35, _⟩ := info_parts info37; have hroom35 : l0.length ≤ c0 := (Kd.V_reads' HO_0.out).2.1; have hC35 : Kd.F k37 _ _ (some ad136) l0.length l0 := (Kd.V_at (base := w.heap.size) HO_0.out).2.2; have hcut35 := cut_to (P := Try.prog) 22 37 .i64 Try.underlying22 hi035 (some ad136) l0.length c0 x7_1 (of_decide_eq_true (by first | (with_reducible assumption) | assumption)) q35 hroom35; have hr35 := Kd.F_take (m := (x7_1 : Int).toNat) hC35 (by omega); have hy35 : y153.length = (x7_1 : Int).toNat := (by rw [Ny153.out, List.length_take]; omega); rw [← Ny153.out] at hr35; rw [← hy35] at hcut35; have HO157 := Aside0.mk (show Kd.V k37 37 _ w.heap.size _ (.slice (some ad136) y153.length c0) y153 from Kd.V_mk (by omega) hr35); have HC157 := Aside0.mk (show y153.length ≤ c0 from by omega); clear hr35 hC35 hroom35 hi035 hsz35; have KY35 := Aside0.mk hy35; clear hy35; replace q35 := eq_true q35))
                      go_ret
                      exact ⟨_, by first | rfl | (simp [errW_none, errW_some] <;> rfl) | (simp [*, errW_none, errW_some] <;> rfl), by (with_reducible repeat (first | apply Kd.V_alloc | apply Kd.V_drewN | apply Kd.V_drew)); exact Kd.V_mono HO157.out (fun _ hk => hk.1), by repeat (first | (with_reducible first | exact HB.out | apply below_alloc | apply pw_below_drewN | apply below_drew1 | refine below_set ?_ GE137.out) | exact HB.out)⟩
                    · rw [if_neg c30] at H
                      exact absurd H (by simp)
                  · rw [if_neg c28] at H
                    have c28b0 : decide (100 < (((rd_T37 l0 x7_1).f3).length : Int)) = false := decide_eq_false c28
                    have c28b1 : decide (100 < ((rd_T37 l0 x7_1).f3).length) = false := decide_eq_false (by omega)
                    clear c28
                    have H' := Aside0.mk H
                    clear H
                    have p136 : 0 ≤ (x7_1 : Int) := of_decide_eq_true (by first | (with_reducible assumption) | assumption)
                    have q136 : x7_1 < (l0.length : Int) := of_decide_eq_true (by first | (with_reducible assumption) | assumption)
                    obtain ⟨ad136, A136_10, c136_10, e136, hx136_0, hx136_1, hx136_2, hx136_3, hx136_4, hx136_5, hx136_6, hx136_7, hx136_8, hx136_9, hx136_10, hl136_10, hi136_10⟩ := at_T37 (Kd.V_reads' HO_5.out).2.2 x7_1 p136 q136
                    cases e136
                    obtain ⟨ce136, hce136, hMe136, hcc136⟩ := Kd.V_get HO_5.out z37 x7_1 p136 (by first | exact q136 | exact of_decide_eq_true (by first | (with_reducible assumption) | assumption) | (have e_ := (Kd.V_reads' HO_5.out).1; omega))
                    obtain ⟨ua136_10, uc136_10, rfl, ul136_10, ge136_10⟩ := k37_openF hMe136
                    have hv136_10 := hcc136 10 _ rfl
                    rw [add_field _ _ 10 (by omega)] at hv136_10
                    replace hv136_10 := Option.some.inj (hv136_10.symm.trans hx136_10)
                    injection hv136_10 with hva_ hvn_ hvc_
                    rw [hva_] at ge136_10
                    rw [hvc_] at ul136_10
                    have HL136_10 := Aside0.mk (show Kd.V (Kd.int .u8) 5 _ w.heap.size _ _ ((rd_T37 l0 x7_1).f3) from Kd.V_mk ul136_10 ge136_10)
                    clear hva_ hvn_ hvc_ ge136_10 ul136_10
                    clear hcc136 hce136
                    have HR136_10 := Aside0.mk hi136_10
                    have HC136_10 := Aside0.mk hl136_10
                    clear hi136_10 hl136_10
                    replace p136 := eq_true p136
                    replace q136 := eq_true q136
                    go_wp2_with (first | ((with_reducible refine gate_dst (N := 4) rfl ?_); (try (refine gate_guard (by rfl) ?_; dsimp only)); refine box_event ?hg (N := 4) ?hd (cs := #[.int .i64 0, .string (⟨#[]⟩ : ByteArray), .int .u64 0, .int .u32 0, .int .u8 0, .int .u8 0, .int .u32 0, .int .u64 0, .string (⟨#[]⟩ : ByteArray), .int .u8 0, .slice none 0 0]) (t := 37) ?hr ?_; (case hd => rfl); (case hg => rfl); (case hr => first | (go_simp; done) | (go_simp; rfl)); intro gb137 hg w36 hbox hb; have n0_ := Aside0.mk (Kd.V_below (Kd.V_elderB (by (with_reducible repeat (first | apply Kd.V_alloc | apply Kd.V_drewN | apply Kd.V_drew)); exact HO_0.out) gb137 (Nat.le_of_eq hg.symm)) hb); have n1_ := Aside0.mk (Kd.V_below (Kd.V_elderB (by (with_reducible repeat (first | apply Kd.V_alloc | apply Kd.V_drewN | apply Kd.V_drew)); exact HO_5.out) gb137 (Nat.le_of_eq hg.symm)) hb); have n2_ := Aside0.mk (Kd.V_below (Kd.V_elderB (by (with_reducible repeat (first | apply Kd.V_alloc | apply Kd.V_drewN | apply Kd.V_drew)); exact HL136_10.out) gb137 (Nat.le_of_eq hg.symm)) hb); have n3_ := Aside0.mk (Kd.C_below (by repeat (first | (with_reducible exact HR136_10.out) | (with_reducible refine Kd.C_alloc ?_ _) | (with_reducible refine Kd.C_drewN ?_ _) | (with_reducible refine Kd.C_drew ?_) | exact HR136_10.out)) hb); have n4_ := Aside0.mk (below_step (by repeat (first | (with_reducible first | exact HB.out | apply below_alloc | apply pw_below_drewN | apply below_drew1) | exact HB.out)) hb); have n5_ := Aside0.mk (hbox); have n6_ := Aside0.mk ((by rw [hg]; exact (below_size (by repeat (first | (with_reducible first | exact HB.out | apply below_alloc | apply pw_below_drewN | apply below_drew1) | exact HB.out))) : w.heap.size ≤ gb137)); have n7_ := Aside0.mk ((by rw [hg]; exact (below_size (by repeat (first | (with_reducible first | exact HB.out | apply below_alloc | apply pw_below_drewN | apply below_drew1) | exact HB.out))) : w.heap.size ≤ gb137)); clear HO_0; clear HO_5; clear HL136_10; clear HR136_10; clear HB; have HO_0 := n0_; have HO_5 := n1_; have HL136_10 := n2_; have HR136_10 := n3_; have HB := n4_; have BK137 := n5_; have GW137 := n6_; have GE137 := n7_; clear n0_ n1_ n2_ n3_ n4_ n5_ n6_ n7_; clear hb hbox hg; have hcz37_0 : w36.cell? ⟨gb137, 0, none⟩ = some (.int .i64 0) := (blk_cell BK137.out 0).trans rfl; have hcz37_1 : w36.cell? ⟨gb137, 1, none⟩ = some (.string (⟨#[]⟩ : ByteArray)) := (blk_cell BK137.out 1).trans rfl; have hcz37_2 : w36.cell? ⟨gb137, 2, none⟩ = some (.int .u64 0) := (blk_cell BK137.out 2).trans rfl; have hcz37_3 : w36.cell? ⟨gb137, 3, none⟩ = some (.int .u32 0) := (blk_cell BK137.out 3).trans rfl; have hcz37_4 : w36.cell? ⟨gb137, 4, none⟩ = some (.int .u8 0) := (blk_cell BK137.out 4).trans rfl; have hcz37_5 : w36.cell? ⟨gb137, 5, none⟩ = some (.int .u8 0) := (blk_cell BK137.out 5).trans rfl; have hcz37_6 : w36.cell? ⟨gb137, 6, none⟩ = some (.int .u32 0) := (blk_cell BK137.out 6).trans rfl; have hcz37_7 : w36.cell? ⟨gb137, 7, none⟩ = some (.int .u64 0) := (blk_cell BK137.out 7).trans rfl; have hcz37_8 : w36.cell? ⟨gb137, 8, none⟩ = some (.string (⟨#[]⟩ : ByteArray)) := (blk_cell BK137.out 8).trans rfl; have hcz37_9 : w36.cell? ⟨gb137, 9, none⟩ = some (.int .u8 0) := (blk_cell BK137.out 9).trans rfl; have hcz37_10 : w36.cell? ⟨gb137, 10, none⟩ = some (.slice none 0 0) := (blk_cell BK137.out 10).trans rfl; have hfz37_0 := blk_frozen BK137.out 0; have hfz37_1 := blk_frozen BK137.out 1; have hfz37_2 := blk_frozen BK137.out 2; have hfz37_3 := blk_frozen BK137.out 3; have hfz37_4 := blk_frozen BK137.out 4; have hfz37_5 := blk_frozen BK137.out 5; have hfz37_6 := blk_frozen BK137.out 6; have hfz37_7 := blk_frozen BK137.out 7; have hfz37_8 := blk_frozen BK137.out 8; have hfz37_9 := blk_frozen BK137.out 9; have hfz37_10 := blk_frozen BK137.out 10))
                    go_roundg k1
                    case measure => have := HK1.out; omega
                    case rel => exact ⟨(wrap64 (x7_1 + 1)), (by first | rfl | (simp; done) | (simp [*]; done)), H', ⟨by have := HK1.out; omega⟩, ⟨by (with_reducible repeat (first | apply Kd.V_alloc | apply Kd.V_drewN | apply Kd.V_drew)); exact Kd.V_mono (Kd.V_far (p := ⟨gb137, 10, none⟩) (Kd.V_far (p := ⟨gb137, 9, none⟩) (Kd.V_far (p := ⟨gb137, 8, none⟩) (Kd.V_far (p := ⟨gb137, 7, none⟩) (Kd.V_far (p := ⟨gb137, 6, none⟩) (Kd.V_far (p := ⟨gb137, 5, none⟩) (Kd.V_far (p := ⟨gb137, 4, none⟩) (Kd.V_far (p := ⟨gb137, 3, none⟩) (Kd.V_far (p := ⟨gb137, 2, none⟩) (Kd.V_far (p := ⟨gb137, 1, none⟩) (Kd.V_far (p := ⟨gb137, 0, none⟩) (Kd.V_mono HO_0.out (fun k_ hk => (⟨hk, hk.2⟩ : _ ∧ k_ ≠ gb137))) (fun _ hk => hk.2) (.int .i64 ((rd_T37 l0 x7_1).f0))) (fun _ hk => hk.2) (.string ((rd_T37 l0 x7_1).f1.f0))) (fun _ hk => hk.2) (.int .u64 ((rd_T37 l0 x7_1).f1.f1.f0))) (fun _ hk => hk.2) (.int .u32 ((rd_T37 l0 x7_1).f1.f1.f1))) (fun _ hk => hk.2) (.int .u8 ((rd_T37 l0 x7_1).f1.f1.f2))) (fun _ hk => hk.2) (.int .u8 ((rd_T37 l0 x7_1).f1.f2))) (fun _ hk => hk.2) (.int .u32 ((rd_T37 l0 x7_1).f1.f3))) (fun _ hk => hk.2) (.int .u64 ((rd_T37 l0 x7_1).f1.f4))) (fun _ hk => hk.2) (.string ((rd_T37 l0 x7_1).f1.f5))) (fun _ hk => hk.2) (.int .u8 ((rd_T37 l0 x7_1).f2))) (fun _ hk => hk.2) (.slice A136_10 ((rd_T37 l0 x7_1).f3).length c136_10)) (fun _ hk => hk.1.1)⟩, ⟨by (with_reducible repeat (first | apply Kd.V_alloc | apply Kd.V_drewN | apply Kd.V_drew)); exact Kd.V_mono (Kd.V_far (p := ⟨gb137, 10, none⟩) (Kd.V_far (p := ⟨gb137, 9, none⟩) (Kd.V_far (p := ⟨gb137, 8, none⟩) (Kd.V_far (p := ⟨gb137, 7, none⟩) (Kd.V_far (p := ⟨gb137, 6, none⟩) (Kd.V_far (p := ⟨gb137, 5, none⟩) (Kd.V_far (p := ⟨gb137, 4, none⟩) (Kd.V_far (p := ⟨gb137, 3, none⟩) (Kd.V_far (p := ⟨gb137, 2, none⟩) (Kd.V_far (p := ⟨gb137, 1, none⟩) (Kd.V_far (p := ⟨gb137, 0, none⟩) (Kd.V_mono HO_5.out (fun k_ hk => (⟨hk, hk.2⟩ : _ ∧ k_ ≠ gb137))) (fun _ hk => hk.2) (.int .i64 ((rd_T37 l0 x7_1).f0))) (fun _ hk => hk.2) (.string ((rd_T37 l0 x7_1).f1.f0))) (fun _ hk => hk.2) (.int .u64 ((rd_T37 l0 x7_1).f1.f1.f0))) (fun _ hk => hk.2) (.int .u32 ((rd_T37 l0 x7_1).f1.f1.f1))) (fun _ hk => hk.2) (.int .u8 ((rd_T37 l0 x7_1).f1.f1.f2))) (fun _ hk => hk.2) (.int .u8 ((rd_T37 l0 x7_1).f1.f2))) (fun _ hk => hk.2) (.int .u32 ((rd_T37 l0 x7_1).f1.f3))) (fun _ hk => hk.2) (.int .u64 ((rd_T37 l0 x7_1).f1.f4))) (fun _ hk => hk.2) (.string ((rd_T37 l0 x7_1).f1.f5))) (fun _ hk => hk.2) (.int .u8 ((rd_T37 l0 x7_1).f2))) (fun _ hk => hk.2) (.slice A136_10 ((rd_T37 l0 x7_1).f3).length c136_10)) (fun _ hk => hk.1.1)⟩, ⟨by repeat (first | (with_reducible first | exact HB.out | apply below_alloc | apply pw_below_drewN | apply below_drew1 | refine below_set ?_ GE137.out) | exact HB.out)⟩⟩
          · rw [if_neg c4] at H
            exact absurd H (by simp)
        · rw [if_neg c3] at H
          exact absurd H (by simp)
      · rw [if_neg c2] at H
        have c2b0 : decide (x7_1 < (l0.length : Int)) = false := decide_eq_false c2
        clear c2
        obtain rfl := Option.some.inj H
        go_wp2
        go_ret
        exact ⟨_, by first | rfl | (simp [errW_none, errW_some] <;> rfl) | (simp [*, errW_none, errW_some] <;> rfl), by (with_reducible repeat (first | apply Kd.V_alloc | apply Kd.V_drewN | apply Kd.V_drew)); exact HO_0.out, by repeat (first | (with_reducible first | exact HB.out | apply below_alloc | apply pw_below_drewN | apply below_drew1) | exact HB.out)⟩

/-! ### mix_Mix: function 74 -/
def mix_Mix.f (a0 : Int) : Option (Int) := some (Go.bits .xor .u64 (IntKind.u64.wrap ((Go.bits .xor .u64 (IntKind.u64.wrap ((Go.bits .xor .u64 a0 (a0 / 1073741824)) * 13787848793156543929)) ((IntKind.u64.wrap ((Go.bits .xor .u64 a0 (a0 / 1073741824)) * 13787848793156543929)) / 134217728)) * 10723151780598845931)) ((IntKind.u64.wrap ((Go.bits .xor .u64 (IntKind.u64.wrap ((Go.bits .xor .u64 a0 (a0 / 1073741824)) * 13787848793156543929)) ((IntKind.u64.wrap ((Go.bits .xor .u64 a0 (a0 / 1073741824)) * 13787848793156543929)) / 134217728)) * 10723151780598845931)) / 2147483648))
set_option maxHeartbeats 8000000 in
set_option maxRecDepth 100000 in
theorem mix_Mix.calls (a0 : Int) (r : Int) (w : World) (h : mix_Mix.f a0 = some r) :
    Calls Try.prog 74 #[.int .u64 a0] w fun e w' => e = .returned (.int .u64 r) ∧ Drawn0 w w' := by
  have H : (some (Go.bits .xor .u64 (IntKind.u64.wrap ((Go.bits .xor .u64 (IntKind.u64.wrap ((Go.bits .xor .u64 a0 (a0 / 1073741824)) * 13787848793156543929)) ((IntKind.u64.wrap ((Go.bits .xor .u64 a0 (a0 / 1073741824)) * 13787848793156543929)) / 134217728)) * 10723151780598845931)) ((IntKind.u64.wrap ((Go.bits .xor .u64 (IntKind.u64.wrap ((Go.bits .xor .u64 a0 (a0 / 1073741824)) * 13787848793156543929)) ((IntKind.u64.wrap ((Go.bits .xor .u64 a0 (a0 / 1073741824)) * 13787848793156543929)) / 134217728)) * 10723151780598845931)) / 2147483648))) = some r := h
  clear h
  obtain rfl := Option.some.inj H
  go_enter Try.func74, Try.ntmps74
  go_wp2
  go_ret
  exact ⟨by first | rfl | (simp; done) | (simp [*]; done), by repeat (first | exact Drawn0.refl _ | apply Drawn0.step)⟩

/-! ### mix_Two: function 66 -/
def mix_Two.f (a0 : Int) (a1 : Int) : Option (Int) := (mix_Mix.f a0).bind fun t158 => ((mix_Mix.f (Go.bits .xor .u64 t158 a1)).bind fun t159 => (some t159))
set_option maxHeartbeats 8000000 in
set_option maxRecDepth 100000 in
theorem mix_Two.calls (a0 : Int) (a1 : Int) (r : Int) (w : World) (h : mix_Two.f a0 a1 = some r) :
    Calls Try.prog 66 #[.int .u64 a0, .int .u64 a1] w fun e w' => e = .returned (.int .u64 r) ∧ Drawn0 w w' := by
  have H : ((mix_Mix.f a0).bind fun t158 => ((mix_Mix.f (Go.bits .xor .u64 t158 a1)).bind fun t159 => (some t159))) = some r := h
  clear h
  replace H := Option.bind_eq_some_iff.mp H
  obtain ⟨t158, A30, H⟩ := H
  replace H : ((mix_Mix.f (Go.bits .xor .u64 t158 a1)).bind fun t159 => (some t159)) = some r := H
  have A3 := Aside0.mk A30
  clear A30
  replace H := Option.bind_eq_some_iff.mp H
  obtain ⟨t159, A40, H⟩ := H
  replace H : (some t159) = some r := H
  have A4 := Aside0.mk A40
  clear A40
  obtain rfl := Option.some.inj H
  go_enter Try.func66, Try.ntmps66
  go_wp2_with (first | ((with_reducible refine gate_callee (f := 74) rfl ?_); refine goesL_ (some 6) rfl rfl Try.func74 (by kernel_rfl) rfl #[.int .u64 a0] rfl (by (try simp only [List.map_toArray, List.map_cons, List.map_nil]); first | done | rfl | (simp only [List.length_drop, List.length_take]; rfl)) ?_; (with_reducible refine (mix_Mix.calls a0 t158 _ A3.out).mono ?_); rintro e w' ⟨rfl, ⟨nd, rfl⟩⟩; refine ⟨_, rfl, ?_⟩) | ((with_reducible refine gate_callee (f := 74) rfl ?_); refine goesL_ (some 9) rfl rfl Try.func74 (by kernel_rfl) rfl #[.int .u64 (Go.bits .xor .u64 t158 a1)] rfl (by (try simp only [List.map_toArray, List.map_cons, List.map_nil]); first | done | rfl | (simp only [List.length_drop, List.length_take]; rfl)) ?_; (with_reducible refine (mix_Mix.calls (Go.bits .xor .u64 t158 a1) t159 _ A4.out).mono ?_); rintro e w' ⟨rfl, ⟨nd, rfl⟩⟩; refine ⟨_, rfl, ?_⟩))
  go_ret
  exact ⟨by first | rfl | (simp; done) | (simp [*]; done), by repeat (first | exact Drawn0.refl _ | apply Drawn0.step)⟩

/-! ### mix_Text: function 67 -/
def mix_Text.l0 : Nat → ByteArray → Int → Int → Int → Option (Int)
  | 0, _, _, _, _ => none
  | k + 1, x0, x3, x6, x7 => if x7 < x6 then (if 0 ≤ x7 then (if x7 < (x0.size : Int) then ((mix_Mix.f (Go.bits .xor .u64 x3 (IntKind.u64.wrap (bt x0 x7)))).bind fun t160 => (mix_Text.l0 k x0 t160 x6 (wrap64 (x7 + 1)))) else (none)) else (none)) else ((mix_Mix.f (Go.bits .xor .u64 x3 (IntKind.u64.wrap ((x0.size : Int))))).bind fun t161 => (some t161))
def mix_Text.f (k : Nat) (a0 : ByteArray) : Option (Int) := mix_Text.l0 k a0 11400714819323198485 (a0.size : Int) 0
theorem mix_Text.mono_l : ∀ k, (∀ y0 y1 y2 y3, LeO (mix_Text.l0 k y0 y1 y2 y3) (mix_Text.l0 (k + 1) y0 y1 y2 y3))
  | 0 => fun _ _ _ _ r h => by simp [mix_Text.l0] at h
  | k + 1 => by
    have ih0 := mix_Text.mono_l k
    · intro y0 y1 y2 y3
      unfold mix_Text.l0
      repeat' first
      | (with_reducible exact ih0 _ _ _ _)
      | (with_reducible exact LeO.refl _)
      | (with_reducible exact LeO.none _)
      | (with_reducible refine LeO.ite ?_ ?_)
      | (with_reducible refine LeO.bind ?_ (fun _ => ?_))
      | exact ih0 _ _ _ _
      | exact LeO.none _
      | refine LeO.ite ?_ ?_
      | refine LeO.bind ?_ (fun _ => ?_)
theorem mix_Text.mono : ∀ a0 k, LeO (mix_Text.f k a0) (mix_Text.f (k + 1) a0) := by
  intro a0 k
  have ih0 := mix_Text.mono_l k
  unfold mix_Text.f
  repeat' first
      | (with_reducible exact ih0 _ _ _ _)
      | (with_reducible exact LeO.refl _)
      | (with_reducible exact LeO.none _)
      | (with_reducible refine LeO.ite ?_ ?_)
      | (with_reducible refine LeO.bind ?_ (fun _ => ?_))
      | exact ih0 _ _ _ _
      | exact LeO.none _
      | refine LeO.ite ?_ ?_
      | refine LeO.bind ?_ (fun _ => ?_)
set_option maxHeartbeats 8000000 in
set_option maxRecDepth 100000 in
theorem mix_Text.calls (k : Nat) (a0 : ByteArray) (r : Int) (w : World) (h : mix_Text.f k a0 = some r) :
    Calls Try.prog 67 #[.string a0] w fun e w' => e = .returned (.int .u64 r) ∧ Drawn0 w w' := by
  have H : (mix_Text.l0 k a0 11400714819323198485 (a0.size : Int) 0) = some r := h
  clear h
  have H' := Aside0.mk H
  clear H
  go_enter Try.func67, Try.ntmps67
  go_wp2
  go_loopg [3, 7] k (fun kq v3 v7 w' => ∃ (x3_1 : Int) (x7_1 : Int), v3 = .int .u64 x3_1 ∧ v7 = .int .i64 x7_1 ∧ Aside0 (mix_Text.l0 kq a0 x3_1 (a0.size : Int) x7_1 = some r) ∧ Aside0 (kq ≤ k) ∧ Drawn0 w w')
  case atStart => exact ⟨(11400714819323198485), (0), (by first | rfl | (simp; done) | (simp [*]; done)), (by first | rfl | (simp; done) | (simp [*]; done)), H', ⟨Nat.le_refl _⟩, by repeat (first | exact Drawn0.refl _ | apply Drawn0.step)⟩
  case round =>
    clear H'
    obtain ⟨x3_1, x7_1, rfl, rfl, HA, HK1, ⟨m1, rfl⟩⟩ := hrel
    cases gk with
    | zero => exact absurd HA.out (by simp [mix_Text.l0])
    | succ k1 =>
      have H := HA.out
      clear HA
      simp only [mix_Text.l0] at H
      by_cases c2 : x7_1 < (a0.size : Int)
      · rw [if_pos c2] at H
        have c2b0 : decide (x7_1 < (a0.size : Int)) = true := decide_eq_true c2
        clear c2
        by_cases c3 : 0 ≤ x7_1
        · rw [if_pos c3] at H
          have c3b0 : decide (0 ≤ x7_1) = true := decide_eq_true c3
          clear c3
          by_cases c4 : x7_1 < (a0.size : Int)
          · rw [if_pos c4] at H
            have c4b0 : decide (x7_1 < (a0.size : Int)) = true := decide_eq_true c4
            clear c4
            replace H := Option.bind_eq_some_iff.mp H
            obtain ⟨t160, A60, H⟩ := H
            replace H : (mix_Text.l0 k1 a0 t160 (a0.size : Int) (wrap64 (x7_1 + 1))) = some r := H
            have A6 := Aside0.mk A60
            clear A60
            have H' := Aside0.mk H
            clear H
            have p5 : 0 ≤ (x7_1 : Int) := of_decide_eq_true (by first | (with_reducible assumption) | assumption)
            have q5 : x7_1 < (a0.size : Int) := of_decide_eq_true (by first | (with_reducible assumption) | assumption)
            have hx5 := bt_at a0 x7_1
            replace p5 := eq_true p5
            replace q5 := eq_true q5
            go_wp2_with (first | ((with_reducible refine gate_callee (f := 74) rfl ?_); refine goesL_ (some 16) rfl rfl Try.func74 (by kernel_rfl) rfl #[.int .u64 (Go.bits .xor .u64 x3_1 (IntKind.u64.wrap (bt a0 x7_1)))] rfl (by (try simp only [List.map_toArray, List.map_cons, List.map_nil]); first | done | rfl | (simp only [List.length_drop, List.length_take]; rfl)) ?_; (with_reducible refine (mix_Mix.calls (Go.bits .xor .u64 x3_1 (IntKind.u64.wrap (bt a0 x7_1))) t160 _ A6.out).mono ?_); rintro e w' ⟨rfl, ⟨nd, rfl⟩⟩; refine ⟨_, rfl, ?_⟩))
            go_roundg k1
            case measure => have := HK1.out; omega
            case rel => exact ⟨(t160), (wrap64 (x7_1 + 1)), (by first | rfl | (simp; done) | (simp [*]; done)), (by first | rfl | (simp; done) | (simp [*]; done)), H', ⟨by have := HK1.out; omega⟩, by repeat (first | exact Drawn0.refl _ | apply Drawn0.step)⟩
          · rw [if_neg c4] at H
            exact absurd H (by simp)
        · rw [if_neg c3] at H
          exact absurd H (by simp)
      · rw [if_neg c2] at H
        have c2b0 : decide (x7_1 < (a0.size : Int)) = false := decide_eq_false c2
        clear c2
        replace H := Option.bind_eq_some_iff.mp H
        obtain ⟨t161, A70, H⟩ := H
        replace H : (some t161) = some r := H
        have A7 := Aside0.mk A70
        clear A70
        obtain rfl := Option.some.inj H
        go_wp2_with (first | ((with_reducible refine gate_callee (f := 74) rfl ?_); refine goesL_ (some 23) rfl rfl Try.func74 (by kernel_rfl) rfl #[.int .u64 (Go.bits .xor .u64 x3_1 (IntKind.u64.wrap ((a0.size : Int))))] rfl (by (try simp only [List.map_toArray, List.map_cons, List.map_nil]); first | done | rfl | (simp only [List.length_drop, List.length_take]; rfl)) ?_; (with_reducible refine (mix_Mix.calls (Go.bits .xor .u64 x3_1 (IntKind.u64.wrap ((a0.size : Int)))) t161 _ A7.out).mono ?_); rintro e w' ⟨rfl, ⟨nd, rfl⟩⟩; refine ⟨_, rfl, ?_⟩))
        go_ret
        exact ⟨by first | rfl | (simp; done) | (simp [*]; done), by repeat (first | exact Drawn0.refl _ | apply Drawn0.step)⟩

/-! ### ring_Weight: function 54 -/
def ring_Weight.f (k : Nat) (a0 : ByteArray) (a1 : Int) : Option (Int) := (mix_Text.f k a0).bind fun t162 => ((mix_Two.f t162 (IntKind.u64.wrap ((IntKind.u64.wrap (a1)) + 1))).bind fun t163 => (some t163))
theorem ring_Weight.mono : ∀ a0 a1 k, LeO (ring_Weight.f k a0 a1) (ring_Weight.f (k + 1) a0 a1) := by
  intro a0 a1 k
  unfold ring_Weight.f
  repeat' first
      | (with_reducible exact mix_Text.mono _ _)
      | (with_reducible exact LeO.refl _)
      | (with_reducible exact LeO.none _)
      | (with_reducible refine LeO.ite ?_ ?_)
      | (with_reducible refine LeO.bind ?_ (fun _ => ?_))
      | exact mix_Text.mono _ _
      | exact LeO.none _
      | refine LeO.ite ?_ ?_
      | refine LeO.bind ?_ (fun _ => ?_)
set_option maxHeartbeats 8000000 in
set_option maxRecDepth 100000 in
theorem ring_Weight.calls (k : Nat) (a0 : ByteArray) (a1 : Int) (r : Int) (w : World) (h : ring_Weight.f k a0 a1 = some r) :
    Calls Try.prog 54 #[.string a0, .int .u8 a1] w fun e w' => e = .returned (.int .u64 r) ∧ Drawn0 w w' := by
  have H : ((mix_Text.f k a0).bind fun t162 => ((mix_Two.f t162 (IntKind.u64.wrap ((IntKind.u64.wrap (a1)) + 1))).bind fun t163 => (some t163))) = some r := h
  clear h
  replace H := Option.bind_eq_some_iff.mp H
  obtain ⟨t162, A30, H⟩ := H
  replace H : ((mix_Two.f t162 (IntKind.u64.wrap ((IntKind.u64.wrap (a1)) + 1))).bind fun t163 => (some t163)) = some r := H
  have A3 := Aside0.mk A30
  clear A30
  replace H := Option.bind_eq_some_iff.mp H
  obtain ⟨t163, A40, H⟩ := H
  replace H : (some t163) = some r := H
  have A4 := Aside0.mk A40
  clear A40
  obtain rfl := Option.some.inj H
  go_enter Try.func54, Try.ntmps54
  go_wp2_with (first | ((with_reducible refine gate_callee (f := 67) rfl ?_); refine goesL_ (some 6) rfl rfl Try.func67 (by kernel_rfl) rfl #[.string a0] rfl (by (try simp only [List.map_toArray, List.map_cons, List.map_nil]); first | done | rfl | (simp only [List.length_drop, List.length_take]; rfl)) ?_; (with_reducible refine (mix_Text.calls k a0 t162 _ A3.out).mono ?_); rintro e w' ⟨rfl, ⟨nd, rfl⟩⟩; refine ⟨_, rfl, ?_⟩) | ((with_reducible refine gate_callee (f := 66) rfl ?_); refine goesL_ (some 10) rfl rfl Try.func66 (by kernel_rfl) rfl #[.int .u64 t162, .int .u64 (IntKind.u64.wrap ((IntKind.u64.wrap (a1)) + 1))] rfl (by (try simp only [List.map_toArray, List.map_cons, List.map_nil]); first | done | rfl | (simp only [List.length_drop, List.length_take]; rfl)) ?_; (with_reducible refine (mix_Two.calls t162 (IntKind.u64.wrap ((IntKind.u64.wrap (a1)) + 1)) t163 _ A4.out).mono ?_); rintro e w' ⟨rfl, ⟨nd, rfl⟩⟩; refine ⟨_, rfl, ?_⟩))
  go_ret
  exact ⟨by first | rfl | (simp; done) | (simp [*]; done), by repeat (first | exact Drawn0.refl _ | apply Drawn0.step)⟩




/-! ### tattlerref16_in: function 33 -/
def tattlerref16_in.l0 : Nat → List Int → Int → Int → Int → Option (Bool)
  | 0, _, _, _, _ => none
  | k + 1, x0, x1, x7, x8 => if x8 < x7 then (if 0 ≤ x8 then (if x8 < (x0.length : Int) then (if (rd x0 x8) = x1 then (some true) else (tattlerref16_in.l0 k x0 x1 x7 (wrap64 (x8 + 1)))) else (none)) else (none)) else (some false)
def tattlerref16_in.f (k : Nat) (l0 : List Int) (a1 : Int) : Option (Bool) := tattlerref16_in.l0 k l0 a1 (l0.length : Int) 0
theorem tattlerref16_in.mono_l : ∀ k, (∀ y0 y1 y2 y3, LeO (tattlerref16_in.l0 k y0 y1 y2 y3) (tattlerref16_in.l0 (k + 1) y0 y1 y2 y3))
  | 0 => fun _ _ _ _ r h => by simp [tattlerref16_in.l0] at h
  | k + 1 => by
    have ih0 := tattlerref16_in.mono_l k
    · intro y0 y1 y2 y3
      unfold tattlerref16_in.l0
      repeat' first
      | (with_reducible exact ih0 _ _ _ _)
      | (with_reducible exact LeO.refl _)
      | (with_reducible exact LeO.none _)
      | (with_reducible refine LeO.ite ?_ ?_)
      | (with_reducible refine LeO.bind ?_ (fun _ => ?_))
      | exact ih0 _ _ _ _
      | exact LeO.none _
      | refine LeO.ite ?_ ?_
      | refine LeO.bind ?_ (fun _ => ?_)
theorem tattlerref16_in.mono : ∀ a0 a1 k, LeO (tattlerref16_in.f k a0 a1) (tattlerref16_in.f (k + 1) a0 a1) := by
  intro a0 a1 k
  have ih0 := tattlerref16_in.mono_l k
  unfold tattlerref16_in.f
  repeat' first
      | (with_reducible exact ih0 _ _ _ _)
      | (with_reducible exact LeO.refl _)
      | (with_reducible exact LeO.none _)
      | (with_reducible refine LeO.ite ?_ ?_)
      | (with_reducible refine LeO.bind ?_ (fun _ => ?_))
      | exact ih0 _ _ _ _
      | exact LeO.none _
      | refine LeO.ite ?_ ?_
      | refine LeO.bind ?_ (fun _ => ?_)
set_option maxHeartbeats 8000000 in
set_option maxRecDepth 100000 in
theorem tattlerref16_in.calls (k : Nat) (A0 : Option Addr) (c0 : Nat) (l0 : List Int) (a1 : Int) (r : Bool) (w : World) (hr0 : Kd.C (Kd.int .u8) w A0 l0.length l0) (hc0 : l0.length ≤ c0) (h : tattlerref16_in.f k l0 a1 = some r) :
    Calls Try.prog 33 #[.slice A0 l0.length c0, .int .u8 a1] w fun e w' => e = .returned (.bool r) ∧ Drawn0 w w' := by
  have HR0 := Aside0.mk hr0
  have HC0 := Aside0.mk hc0
  clear hr0 hc0
  have H : (tattlerref16_in.l0 k l0 a1 (l0.length : Int) 0) = some r := h
  clear h
  have H' := Aside0.mk H
  clear H
  go_enter Try.func33, Try.ntmps33
  go_wp2
  go_loopg [8] k (fun kq v8 w' => ∃ (x8_1 : Int), v8 = .int .i64 x8_1 ∧ Aside0 (tattlerref16_in.l0 kq l0 a1 (l0.length : Int) x8_1 = some r) ∧ Aside0 (kq ≤ k) ∧ Drawn0 w w')
  case atStart => exact ⟨(0), (by first | rfl | (simp; done) | (simp [*]; done)), H', ⟨Nat.le_refl _⟩, by repeat (first | exact Drawn0.refl _ | apply Drawn0.step)⟩
  case round =>
    clear H'
    try clear p2
    obtain ⟨x8_1, rfl, HA, HK1, ⟨m1, rfl⟩⟩ := hrel
    cases gk with
    | zero => exact absurd HA.out (by simp [tattlerref16_in.l0])
    | succ k1 =>
      have H := HA.out
      clear HA
      simp only [tattlerref16_in.l0] at H
      by_cases c3 : x8_1 < (l0.length : Int)
      · rw [if_pos c3] at H
        have c3b0 : decide (x8_1 < (l0.length : Int)) = true := decide_eq_true c3
        clear c3
        by_cases c4 : 0 ≤ x8_1
        · rw [if_pos c4] at H
          have c4b0 : decide (0 ≤ x8_1) = true := decide_eq_true c4
          clear c4
          by_cases c5 : x8_1 < (l0.length : Int)
          · rw [if_pos c5] at H
            have c5b0 : decide (x8_1 < (l0.length : Int)) = true := decide_eq_true c5
            clear c5
            by_cases c6 : (rd l0 x8_1) = a1
            · rw [if_pos c6] at H
              have c6b0 : ((rd l0 x8_1) == a1) = true := beq_iff_eq.mpr c6
              have c6b1 : ((rd l0 x8_1) != a1) = false := bne_eq_false_iff_eq.mpr c6
              clear c6
              obtain rfl := Option.some.inj H
              have p176 : 0 ≤ (x8_1 : Int) := of_decide_eq_true (by first | (with_reducible assumption) | assumption)
              have q176 : x8_1 < (l0.length : Int) := of_decide_eq_true (by first | (with_reducible assumption) | assumption)
              obtain ⟨ad176, e176, hx176_0⟩ := Kd.at_int HR0.out x8_1 p176 q176
              cases e176
              replace p176 := eq_true p176
              replace q176 := eq_true q176
              go_wp2
              go_ret
              exact ⟨by first | rfl | (simp; done) | (simp [*]; done), by repeat (first | exact Drawn0.refl _ | apply Drawn0.step)⟩
            · rw [if_neg c6] at H
              have c6b0 : ((rd l0 x8_1) == a1) = false := beq_eq_false_iff_ne.mpr c6
              have c6b1 : ((rd l0 x8_1) != a1) = true := bne_iff_ne.mpr c6
              have H' := Aside0.mk H
              clear H
              have p176 : 0 ≤ (x8_1 : Int) := of_decide_eq_true (by first | (with_reducible assumption) | assumption)
              have q176 : x8_1 < (l0.length : Int) := of_decide_eq_true (by first | (with_reducible assumption) | assumption)
              obtain ⟨ad176, e176, hx176_0⟩ := Kd.at_int HR0.out x8_1 p176 q176
              cases e176
              replace p176 := eq_true p176
              replace q176 := eq_true q176
              go_wp2
              go_roundg k1
              case measure => have := HK1.out; omega
              case rel => exact ⟨(wrap64 (x8_1 + 1)), (by first | rfl | (simp; done) | (simp [*]; done)), H', ⟨by have := HK1.out; omega⟩, by repeat (first | exact Drawn0.refl _ | apply Drawn0.step)⟩
          · rw [if_neg c5] at H
            exact absurd H (by simp)
        · rw [if_neg c4] at H
          exact absurd H (by simp)
      · rw [if_neg c3] at H
        have c3b0 : decide (x8_1 < (l0.length : Int)) = false := decide_eq_false c3
        clear c3
        obtain rfl := Option.some.inj H
        go_wp2
        go_ret
        exact ⟨by first | rfl | (simp; done) | (simp [*]; done), by repeat (first | exact Drawn0.refl _ | apply Drawn0.step)⟩

/-! ### tattlerref01_half: function 91 -/
def tattlerref01_half.l0 : Nat → Int → Int → Int → Int → Option (Int)
  | 0, _, _, _, _ => none
  | k + 1, x0, x1, x5, x6 => if x6 < x1 then (tattlerref01_half.l0 k x0 x1 (IntKind.u64.wrap (Int.tdiv x5 2)) (wrap64 (x6 + 1))) else (some (Go.bits .xor .u64 x0 x5))
def tattlerref01_half.f (k : Nat) (a0 : Int) (a1 : Int) : Option (Int) := tattlerref01_half.l0 k a0 a1 a0 0
theorem tattlerref01_half.mono_l : ∀ k, (∀ y0 y1 y2 y3, LeO (tattlerref01_half.l0 k y0 y1 y2 y3) (tattlerref01_half.l0 (k + 1) y0 y1 y2 y3))
  | 0 => fun _ _ _ _ r h => by simp [tattlerref01_half.l0] at h
  | k + 1 => by
    have ih0 := tattlerref01_half.mono_l k
    · intro y0 y1 y2 y3
      unfold tattlerref01_half.l0
      repeat' first
      | (with_reducible exact ih0 _ _ _ _)
      | (with_reducible exact LeO.refl _)
      | (with_reducible exact LeO.none _)
      | (with_reducible refine LeO.ite ?_ ?_)
      | (with_reducible refine LeO.bind ?_ (fun _ => ?_))
      | exact ih0 _ _ _ _
      | exact LeO.none _
      | refine LeO.ite ?_ ?_
      | refine LeO.bind ?_ (fun _ => ?_)
theorem tattlerref01_half.mono : ∀ a0 a1 k, LeO (tattlerref01_half.f k a0 a1) (tattlerref01_half.f (k + 1) a0 a1) := by
  intro a0 a1 k
  have ih0 := tattlerref01_half.mono_l k
  unfold tattlerref01_half.f
  repeat' first
      | (with_reducible exact ih0 _ _ _ _)
      | (with_reducible exact LeO.refl _)
      | (with_reducible exact LeO.none _)
      | (with_reducible refine LeO.ite ?_ ?_)
      | (with_reducible refine LeO.bind ?_ (fun _ => ?_))
      | exact ih0 _ _ _ _
      | exact LeO.none _
      | refine LeO.ite ?_ ?_
      | refine LeO.bind ?_ (fun _ => ?_)
set_option maxHeartbeats 8000000 in
set_option maxRecDepth 100000 in
theorem tattlerref01_half.calls (k : Nat) (a0 : Int) (a1 : Int) (r : Int) (w : World) (h : tattlerref01_half.f k a0 a1 = some r) :
    Calls Try.prog 91 #[.int .u64 a0, .int .i64 a1] w fun e w' => e = .returned (.int .u64 r) ∧ Drawn0 w w' := by
  have H : (tattlerref01_half.l0 k a0 a1 a0 0) = some r := h
  clear h
  have H' := Aside0.mk H
  clear H
  go_enter Try.func91, Try.ntmps91
  go_wp2
  go_loopg [5, 6] k (fun kq v5 v6 w' => ∃ (x5_1 : Int) (x6_1 : Int), v5 = .int .u64 x5_1 ∧ v6 = .int .i64 x6_1 ∧ Aside0 (tattlerref01_half.l0 kq a0 a1 x5_1 x6_1 = some r) ∧ Aside0 (kq ≤ k) ∧ Drawn0 w w')
  case atStart => exact ⟨(a0), (0), (by first | rfl | (simp; done) | (simp [*]; done)), (by first | rfl | (simp; done) | (simp [*]; done)), H', ⟨Nat.le_refl _⟩, by repeat (first | exact Drawn0.refl _ | apply Drawn0.step)⟩
  case round =>
    clear H'
    try clear p2
    obtain ⟨x5_1, x6_1, rfl, rfl, HA, HK1, ⟨m1, rfl⟩⟩ := hrel
    cases gk with
    | zero => exact absurd HA.out (by simp [tattlerref01_half.l0])
    | succ k1 =>
      have H := HA.out
      clear HA
      simp only [tattlerref01_half.l0] at H
      by_cases c3 : x6_1 < a1
      · rw [if_pos c3] at H
        have c3b0 : decide (x6_1 < a1) = true := decide_eq_true c3
        clear c3
        have H' := Aside0.mk H
        clear H
        go_wp2
        go_roundg k1
        case measure => have := HK1.out; omega
        case rel => exact ⟨(IntKind.u64.wrap (Int.tdiv x5_1 2)), (wrap64 (x6_1 + 1)), (by first | rfl | (simp; done) | (simp [*]; done)), (by first | rfl | (simp; done) | (simp [*]; done)), H', ⟨by have := HK1.out; omega⟩, by repeat (first | exact Drawn0.refl _ | apply Drawn0.step)⟩
      · rw [if_neg c3] at H
        have c3b0 : decide (x6_1 < a1) = false := decide_eq_false c3
        clear c3
        obtain rfl := Option.some.inj H
        go_wp2
        go_ret
        exact ⟨by first | rfl | (simp; done) | (simp [*]; done), by repeat (first | exact Drawn0.refl _ | apply Drawn0.step)⟩

/-! ### tattlerref01_Mix: function 85 -/
def tattlerref01_Mix.f (k : Nat) (a0 : Int) : Option (Int) := (tattlerref01_half.f k a0 30).bind fun t177 => ((tattlerref01_half.f k (IntKind.u64.wrap (t177 * 13787848793156543929)) 27).bind fun t178 => ((tattlerref01_half.f k (IntKind.u64.wrap (t178 * 10723151780598845931)) 31).bind fun t179 => (some t179)))
theorem tattlerref01_Mix.mono : ∀ a0 k, LeO (tattlerref01_Mix.f k a0) (tattlerref01_Mix.f (k + 1) a0) := by
  intro a0 k
  unfold tattlerref01_Mix.f
  repeat' first
      | (with_reducible exact tattlerref01_half.mono _ _ _)
      | (with_reducible exact LeO.refl _)
      | (with_reducible exact LeO.none _)
      | (with_reducible refine LeO.ite ?_ ?_)
      | (with_reducible refine LeO.bind ?_ (fun _ => ?_))
      | exact tattlerref01_half.mono _ _ _
      | exact LeO.none _
      | refine LeO.ite ?_ ?_
      | refine LeO.bind ?_ (fun _ => ?_)
set_option maxHeartbeats 8000000 in
set_option maxRecDepth 100000 in
theorem tattlerref01_Mix.calls (k : Nat) (a0 : Int) (r : Int) (w : World) (h : tattlerref01_Mix.f k a0 = some r) :
    Calls Try.prog 85 #[.int .u64 a0] w fun e w' => e = .returned (.int .u64 r) ∧ Drawn0 w w' := by
  have H : ((tattlerref01_half.f k a0 30).bind fun t177 => ((tattlerref01_half.f k (IntKind.u64.wrap (t177 * 13787848793156543929)) 27).bind fun t178 => ((tattlerref01_half.f k (IntKind.u64.wrap (t178 * 10723151780598845931)) 31).bind fun t179 => (some t179)))) = some r := h
  clear h
  replace H := Option.bind_eq_some_iff.mp H
  obtain ⟨t177, A20, H⟩ := H
  replace H : ((tattlerref01_half.f k (IntKind.u64.wrap (t177 * 13787848793156543929)) 27).bind fun t178 => ((tattlerref01_half.f k (IntKind.u64.wrap (t178 * 10723151780598845931)) 31).bind fun t179 => (some t179))) = some r := H
  have A2 := Aside0.mk A20
  clear A20
  replace H := Option.bind_eq_some_iff.mp H
  obtain ⟨t178, A30, H⟩ := H
  replace H : ((tattlerref01_half.f k (IntKind.u64.wrap (t178 * 10723151780598845931)) 31).bind fun t179 => (some t179)) = some r := H
  have A3 := Aside0.mk A30
  clear A30
  replace H := Option.bind_eq_some_iff.mp H
  obtain ⟨t179, A40, H⟩ := H
  replace H : (some t179) = some r := H
  have A4 := Aside0.mk A40
  clear A40
  obtain rfl := Option.some.inj H
  go_enter Try.func85, Try.ntmps85
  go_wp2_with (first | ((with_reducible refine gate_callee (f := 91) rfl ?_); refine goesL_ (some 6) rfl rfl Try.func91 (by kernel_rfl) rfl #[.int .u64 a0, .int .i64 30] rfl (by (try simp only [List.map_toArray, List.map_cons, List.map_nil]); first | done | rfl | (simp only [List.length_drop, List.length_take]; rfl)) ?_; (with_reducible refine (tattlerref01_half.calls k a0 30 t177 _ A2.out).mono ?_); rintro e w' ⟨rfl, ⟨nd, rfl⟩⟩; refine ⟨_, rfl, ?_⟩) | ((with_reducible refine gate_callee (f := 91) rfl ?_); refine goesL_ (some 9) rfl rfl Try.func91 (by kernel_rfl) rfl #[.int .u64 (IntKind.u64.wrap (t177 * 13787848793156543929)), .int .i64 27] rfl (by (try simp only [List.map_toArray, List.map_cons, List.map_nil]); first | done | rfl | (simp only [List.length_drop, List.length_take]; rfl)) ?_; (with_reducible refine (tattlerref01_half.calls k (IntKind.u64.wrap (t177 * 13787848793156543929)) 27 t178 _ A3.out).mono ?_); rintro e w' ⟨rfl, ⟨nd, rfl⟩⟩; refine ⟨_, rfl, ?_⟩) | ((with_reducible refine gate_callee (f := 91) rfl ?_); refine goesL_ (some 12) rfl rfl Try.func91 (by kernel_rfl) rfl #[.int .u64 (IntKind.u64.wrap (t178 * 10723151780598845931)), .int .i64 31] rfl (by (try simp only [List.map_toArray, List.map_cons, List.map_nil]); first | done | rfl | (simp only [List.length_drop, List.length_take]; rfl)) ?_; (with_reducible refine (tattlerref01_half.calls k (IntKind.u64.wrap (t178 * 10723151780598845931)) 31 t179 _ A4.out).mono ?_); rintro e w' ⟨rfl, ⟨nd, rfl⟩⟩; refine ⟨_, rfl, ?_⟩))
  go_ret
  exact ⟨by first | rfl | (simp; done) | (simp [*]; done), by repeat (first | exact Drawn0.refl _ | apply Drawn0.step)⟩

/-! ### tattlerref01_Two: function 70 -/
def tattlerref01_Two.f (k : Nat) (a0 : Int) (a1 : Int) : Option (Int) := (tattlerref01_Mix.f k a0).bind fun t180 => ((tattlerref01_Mix.f k (Go.bits .xor .u64 t180 a1)).bind fun t181 => (some t181))
theorem tattlerref01_Two.mono : ∀ a0 a1 k, LeO (tattlerref01_Two.f k a0 a1) (tattlerref01_Two.f (k + 1) a0 a1) := by
  intro a0 a1 k
  unfold tattlerref01_Two.f
  repeat' first
      | (with_reducible exact tattlerref01_Mix.mono _ _)
      | (with_reducible exact LeO.refl _)
      | (with_reducible exact LeO.none _)
      | (with_reducible refine LeO.ite ?_ ?_)
      | (with_reducible refine LeO.bind ?_ (fun _ => ?_))
      | exact tattlerref01_Mix.mono _ _
      | exact LeO.none _
      | refine LeO.ite ?_ ?_
      | refine LeO.bind ?_ (fun _ => ?_)
set_option maxHeartbeats 8000000 in
set_option maxRecDepth 100000 in
theorem tattlerref01_Two.calls (k : Nat) (a0 : Int) (a1 : Int) (r : Int) (w : World) (h : tattlerref01_Two.f k a0 a1 = some r) :
    Calls Try.prog 70 #[.int .u64 a0, .int .u64 a1] w fun e w' => e = .returned (.int .u64 r) ∧ Drawn0 w w' := by
  have H : ((tattlerref01_Mix.f k a0).bind fun t180 => ((tattlerref01_Mix.f k (Go.bits .xor .u64 t180 a1)).bind fun t181 => (some t181))) = some r := h
  clear h
  replace H := Option.bind_eq_some_iff.mp H
  obtain ⟨t180, A30, H⟩ := H
  replace H : ((tattlerref01_Mix.f k (Go.bits .xor .u64 t180 a1)).bind fun t181 => (some t181)) = some r := H
  have A3 := Aside0.mk A30
  clear A30
  replace H := Option.bind_eq_some_iff.mp H
  obtain ⟨t181, A40, H⟩ := H
  replace H : (some t181) = some r := H
  have A4 := Aside0.mk A40
  clear A40
  obtain rfl := Option.some.inj H
  go_enter Try.func70, Try.ntmps70
  go_wp2_with (first | ((with_reducible refine gate_callee (f := 85) rfl ?_); refine goesL_ (some 6) rfl rfl Try.func85 (by kernel_rfl) rfl #[.int .u64 a0] rfl (by (try simp only [List.map_toArray, List.map_cons, List.map_nil]); first | done | rfl | (simp only [List.length_drop, List.length_take]; rfl)) ?_; (with_reducible refine (tattlerref01_Mix.calls k a0 t180 _ A3.out).mono ?_); rintro e w' ⟨rfl, ⟨nd, rfl⟩⟩; refine ⟨_, rfl, ?_⟩) | ((with_reducible refine gate_callee (f := 85) rfl ?_); refine goesL_ (some 9) rfl rfl Try.func85 (by kernel_rfl) rfl #[.int .u64 (Go.bits .xor .u64 t180 a1)] rfl (by (try simp only [List.map_toArray, List.map_cons, List.map_nil]); first | done | rfl | (simp only [List.length_drop, List.length_take]; rfl)) ?_; (with_reducible refine (tattlerref01_Mix.calls k (Go.bits .xor .u64 t180 a1) t181 _ A4.out).mono ?_); rintro e w' ⟨rfl, ⟨nd, rfl⟩⟩; refine ⟨_, rfl, ?_⟩))
  go_ret
  exact ⟨by first | rfl | (simp; done) | (simp [*]; done), by repeat (first | exact Drawn0.refl _ | apply Drawn0.step)⟩

/-! ### tattlerref01_Text: function 71 -/
def tattlerref01_Text.l0 : Nat → ByteArray → Int → Int → Option (Int)
  | 0, _, _, _ => none
  | k + 1, x0, x3, x4 => if x4 < (x0.size : Int) then (if 0 ≤ x4 then ((tattlerref01_Mix.f k (Go.bits .xor .u64 x3 (IntKind.u64.wrap (bt x0 x4)))).bind fun t182 => (tattlerref01_Text.l0 k x0 t182 (wrap64 (x4 + 1)))) else (none)) else ((tattlerref01_Mix.f k (Go.bits .xor .u64 x3 (IntKind.u64.wrap ((x0.size : Int))))).bind fun t183 => (some t183))
def tattlerref01_Text.f (k : Nat) (a0 : ByteArray) : Option (Int) := tattlerref01_Text.l0 k a0 11400714819323198485 0
theorem tattlerref01_Text.mono_l : ∀ k, (∀ y0 y1 y2, LeO (tattlerref01_Text.l0 k y0 y1 y2) (tattlerref01_Text.l0 (k + 1) y0 y1 y2))
  | 0 => fun _ _ _ r h => by simp [tattlerref01_Text.l0] at h
  | k + 1 => by
    have ih0 := tattlerref01_Text.mono_l k
    · intro y0 y1 y2
      unfold tattlerref01_Text.l0
      repeat' first
      | (with_reducible exact ih0 _ _ _)
      | (with_reducible exact tattlerref01_Mix.mono _ _)
      | (with_reducible exact LeO.refl _)
      | (with_reducible exact LeO.none _)
      | (with_reducible refine LeO.ite ?_ ?_)
      | (with_reducible refine LeO.bind ?_ (fun _ => ?_))
      | exact ih0 _ _ _
      | exact tattlerref01_Mix.mono _ _
      | exact LeO.none _
      | refine LeO.ite ?_ ?_
      | refine LeO.bind ?_ (fun _ => ?_)
theorem tattlerref01_Text.mono : ∀ a0 k, LeO (tattlerref01_Text.f k a0) (tattlerref01_Text.f (k + 1) a0) := by
  intro a0 k
  have ih0 := tattlerref01_Text.mono_l k
  unfold tattlerref01_Text.f
  repeat' first
      | (with_reducible exact ih0 _ _ _)
      | (with_reducible exact tattlerref01_Mix.mono _ _)
      | (with_reducible exact LeO.refl _)
      | (with_reducible exact LeO.none _)
      | (with_reducible refine LeO.ite ?_ ?_)
      | (with_reducible refine LeO.bind ?_ (fun _ => ?_))
      | exact ih0 _ _ _
      | exact tattlerref01_Mix.mono _ _
      | exact LeO.none _
      | refine LeO.ite ?_ ?_
      | refine LeO.bind ?_ (fun _ => ?_)
set_option maxHeartbeats 8000000 in
set_option maxRecDepth 100000 in
theorem tattlerref01_Text.calls (k : Nat) (a0 : ByteArray) (r : Int) (w : World) (h : tattlerref01_Text.f k a0 = some r) :
    Calls Try.prog 71 #[.string a0] w fun e w' => e = .returned (.int .u64 r) ∧ Drawn0 w w' := by
  have H : (tattlerref01_Text.l0 k a0 11400714819323198485 0) = some r := h
  clear h
  have H' := Aside0.mk H
  clear H
  go_enter Try.func71, Try.ntmps71
  go_wp2
  go_loopg [3, 4] k (fun kq v3 v4 w' => ∃ (x3_1 : Int) (x4_1 : Int), v3 = .int .u64 x3_1 ∧ v4 = .int .i64 x4_1 ∧ Aside0 (tattlerref01_Text.l0 kq a0 x3_1 x4_1 = some r) ∧ Aside0 (kq ≤ k) ∧ Drawn0 w w')
  case atStart => exact ⟨(11400714819323198485), (0), (by first | rfl | (simp; done) | (simp [*]; done)), (by first | rfl | (simp; done) | (simp [*]; done)), H', ⟨Nat.le_refl _⟩, by repeat (first | exact Drawn0.refl _ | apply Drawn0.step)⟩
  case round =>
    clear H'
    obtain ⟨x3_1, x4_1, rfl, rfl, HA, HK1, ⟨m1, rfl⟩⟩ := hrel
    cases gk with
    | zero => exact absurd HA.out (by simp [tattlerref01_Text.l0])
    | succ k1 =>
      have H := HA.out
      clear HA
      simp only [tattlerref01_Text.l0] at H
      by_cases c2 : x4_1 < (a0.size : Int)
      · rw [if_pos c2] at H
        have c2b0 : decide (x4_1 < (a0.size : Int)) = true := decide_eq_true c2
        clear c2
        by_cases c3 : 0 ≤ x4_1
        · rw [if_pos c3] at H
          have c3b0 : decide (0 ≤ x4_1) = true := decide_eq_true c3
          clear c3
          replace H := Option.bind_eq_some_iff.mp H
          obtain ⟨t182, A50, H⟩ := H
          replace H : (tattlerref01_Text.l0 k1 a0 t182 (wrap64 (x4_1 + 1))) = some r := H
          have A5 := Aside0.mk A50
          clear A50
          have H' := Aside0.mk H
          clear H
          have p4 : 0 ≤ (x4_1 : Int) := of_decide_eq_true (by first | (with_reducible assumption) | assumption)
          have q4 : x4_1 < (a0.size : Int) := of_decide_eq_true (by first | (with_reducible assumption) | assumption)
          have hx4 := bt_at a0 x4_1
          replace p4 := eq_true p4
          replace q4 := eq_true q4
          go_wp2_with (first | ((with_reducible refine gate_callee (f := 85) rfl ?_); refine goesL_ (some 17) rfl rfl Try.func85 (by kernel_rfl) rfl #[.int .u64 (Go.bits .xor .u64 x3_1 (IntKind.u64.wrap (bt a0 x4_1)))] rfl (by (try simp only [List.map_toArray, List.map_cons, List.map_nil]); first | done | rfl | (simp only [List.length_drop, List.length_take]; rfl)) ?_; (with_reducible refine (tattlerref01_Mix.calls k1 (Go.bits .xor .u64 x3_1 (IntKind.u64.wrap (bt a0 x4_1))) t182 _ A5.out).mono ?_); rintro e w' ⟨rfl, ⟨nd, rfl⟩⟩; refine ⟨_, rfl, ?_⟩))
          go_roundg k1
          case measure => have := HK1.out; omega
          case rel => exact ⟨(t182), (wrap64 (x4_1 + 1)), (by first | rfl | (simp; done) | (simp [*]; done)), (by first | rfl | (simp; done) | (simp [*]; done)), H', ⟨by have := HK1.out; omega⟩, by repeat (first | exact Drawn0.refl _ | apply Drawn0.step)⟩
        · rw [if_neg c3] at H
          exact absurd H (by simp)
      · rw [if_neg c2] at H
        have c2b0 : decide (x4_1 < (a0.size : Int)) = false := decide_eq_false c2
        clear c2
        replace H := Option.bind_eq_some_iff.mp H
        obtain ⟨t183, A60, H⟩ := H
        replace H : (some t183) = some r := H
        have A6 := Aside0.mk A60
        clear A60
        obtain rfl := Option.some.inj H
        go_wp2_with (first | ((with_reducible refine gate_callee (f := 85) rfl ?_); refine goesL_ (some 23) rfl rfl Try.func85 (by kernel_rfl) rfl #[.int .u64 (Go.bits .xor .u64 x3_1 (IntKind.u64.wrap ((a0.size : Int))))] rfl (by (try simp only [List.map_toArray, List.map_cons, List.map_nil]); first | done | rfl | (simp only [List.length_drop, List.length_take]; rfl)) ?_; (with_reducible refine (tattlerref01_Mix.calls k1 (Go.bits .xor .u64 x3_1 (IntKind.u64.wrap ((a0.size : Int)))) t183 _ A6.out).mono ?_); rintro e w' ⟨rfl, ⟨nd, rfl⟩⟩; refine ⟨_, rfl, ?_⟩))
        go_ret
        exact ⟨by first | rfl | (simp; done) | (simp [*]; done), by repeat (first | exact Drawn0.refl _ | apply Drawn0.step)⟩

/-! ### tattlerref16_Weight: function 57 -/
def tattlerref16_Weight.f (k : Nat) (a0 : ByteArray) (a1 : Int) : Option (Int) := (tattlerref01_Text.f k a0).bind fun t184 => ((tattlerref01_Two.f k t184 (IntKind.u64.wrap ((IntKind.u64.wrap (a1)) + 1))).bind fun t185 => (some t185))
theorem tattlerref16_Weight.mono : ∀ a0 a1 k, LeO (tattlerref16_Weight.f k a0 a1) (tattlerref16_Weight.f (k + 1) a0 a1) := by
  intro a0 a1 k
  unfold tattlerref16_Weight.f
  repeat' first
      | (with_reducible exact tattlerref01_Text.mono _ _)
      | (with_reducible exact tattlerref01_Two.mono _ _ _)
      | (with_reducible exact LeO.refl _)
      | (with_reducible exact LeO.none _)
      | (with_reducible refine LeO.ite ?_ ?_)
      | (with_reducible refine LeO.bind ?_ (fun _ => ?_))
      | exact tattlerref01_Text.mono _ _
      | exact tattlerref01_Two.mono _ _ _
      | exact LeO.none _
      | refine LeO.ite ?_ ?_
      | refine LeO.bind ?_ (fun _ => ?_)
set_option maxHeartbeats 8000000 in
set_option maxRecDepth 100000 in
theorem tattlerref16_Weight.calls (k : Nat) (a0 : ByteArray) (a1 : Int) (r : Int) (w : World) (h : tattlerref16_Weight.f k a0 a1 = some r) :
    Calls Try.prog 57 #[.string a0, .int .u8 a1] w fun e w' => e = .returned (.int .u64 r) ∧ Drawn0 w w' := by
  have H : ((tattlerref01_Text.f k a0).bind fun t184 => ((tattlerref01_Two.f k t184 (IntKind.u64.wrap ((IntKind.u64.wrap (a1)) + 1))).bind fun t185 => (some t185))) = some r := h
  clear h
  replace H := Option.bind_eq_some_iff.mp H
  obtain ⟨t184, A30, H⟩ := H
  replace H : ((tattlerref01_Two.f k t184 (IntKind.u64.wrap ((IntKind.u64.wrap (a1)) + 1))).bind fun t185 => (some t185)) = some r := H
  have A3 := Aside0.mk A30
  clear A30
  replace H := Option.bind_eq_some_iff.mp H
  obtain ⟨t185, A40, H⟩ := H
  replace H : (some t185) = some r := H
  have A4 := Aside0.mk A40
  clear A40
  obtain rfl := Option.some.inj H
  go_enter Try.func57, Try.ntmps57
  go_wp2_with (first | ((with_reducible refine gate_callee (f := 71) rfl ?_); refine goesL_ (some 6) rfl rfl Try.func71 (by kernel_rfl) rfl #[.string a0] rfl (by (try simp only [List.map_toArray, List.map_cons, List.map_nil]); first | done | rfl | (simp only [List.length_drop, List.length_take]; rfl)) ?_; (with_reducible refine (tattlerref01_Text.calls k a0 t184 _ A3.out).mono ?_); rintro e w' ⟨rfl, ⟨nd, rfl⟩⟩; refine ⟨_, rfl, ?_⟩) | ((with_reducible refine gate_callee (f := 70) rfl ?_); refine goesL_ (some 10) rfl rfl Try.func70 (by kernel_rfl) rfl #[.int .u64 t184, .int .u64 (IntKind.u64.wrap ((IntKind.u64.wrap (a1)) + 1))] rfl (by (try simp only [List.map_toArray, List.map_cons, List.map_nil]); first | done | rfl | (simp only [List.length_drop, List.length_take]; rfl)) ?_; (with_reducible refine (tattlerref01_Two.calls k t184 (IntKind.u64.wrap ((IntKind.u64.wrap (a1)) + 1)) t185 _ A4.out).mono ?_); rintro e w' ⟨rfl, ⟨nd, rfl⟩⟩; refine ⟨_, rfl, ?_⟩))
  go_ret
  exact ⟨by first | rfl | (simp; done) | (simp [*]; done), by repeat (first | exact Drawn0.refl _ | apply Drawn0.step)⟩

/-! ### tattlerref16_best: function 34 -/
mutual
def tattlerref16_best.l0 : Nat → ByteArray → List Int → Int → Int → Int → Option (Int)
  | 0, _, _, _, _, _ => none
  | k + 1, x0, x1, x2, x7, x8 => if x8 < 64 then (if ((x8) % 256) = x2 then (tattlerref16_best.j1 k x0 x1 x2 x7 x8 ((x8) % 256) true) else ((tattlerref16_in.f k x1 ((x8) % 256)).bind fun t186 => (tattlerref16_best.j1 k x0 x1 x2 x7 x8 ((x8) % 256) (!t186)))) else (some x7)
def tattlerref16_best.j1 : Nat → ByteArray → List Int → Int → Int → Int → Int → Bool → Option (Int)
  | 0, _, _, _, _, _, _, _ => none
  | k + 1, x0, x1, x2, x7, x8, x9, x24 => if x24 = true then (tattlerref16_best.l0 k x0 x1 x2 x7 (wrap64 (x8 + 1))) else (if x7 = 255 then (tattlerref16_best.l0 k x0 x1 x2 x9 (wrap64 (x8 + 1))) else ((tattlerref16_Weight.f k x0 x9).bind fun t187 => ((tattlerref16_Weight.f k x0 x7).bind fun t188 => (if t187 > t188 then (tattlerref16_best.l0 k x0 x1 x2 x9 (wrap64 (x8 + 1))) else (tattlerref16_best.l0 k x0 x1 x2 x7 (wrap64 (x8 + 1)))))))
end
def tattlerref16_best.f (k : Nat) (a0 : ByteArray) (l1 : List Int) (a2 : Int) : Option (Int) := tattlerref16_best.l0 k a0 l1 a2 255 0
theorem tattlerref16_best.mono_l : ∀ k, (∀ y0 y1 y2 y3 y4, LeO (tattlerref16_best.l0 k y0 y1 y2 y3 y4) (tattlerref16_best.l0 (k + 1) y0 y1 y2 y3 y4)) ∧ (∀ y0 y1 y2 y3 y4 y5 y6, LeO (tattlerref16_best.j1 k y0 y1 y2 y3 y4 y5 y6) (tattlerref16_best.j1 (k + 1) y0 y1 y2 y3 y4 y5 y6))
  | 0 => ⟨fun _ _ _ _ _ r h => by simp [tattlerref16_best.l0] at h, fun _ _ _ _ _ _ _ r h => by simp [tattlerref16_best.j1] at h⟩
  | k + 1 => by
    obtain ⟨ih0, ih1⟩ := tattlerref16_best.mono_l k
    refine ⟨?_, ?_⟩
    · intro y0 y1 y2 y3 y4
      unfold tattlerref16_best.l0
      repeat' first
      | (with_reducible exact ih0 _ _ _ _ _)
      | (with_reducible exact ih1 _ _ _ _ _ _ _)
      | (with_reducible exact tattlerref16_Weight.mono _ _ _)
      | (with_reducible exact tattlerref16_in.mono _ _ _)
      | (with_reducible exact LeO.refl _)
      | (with_reducible exact LeO.none _)
      | (with_reducible refine LeO.ite ?_ ?_)
      | (with_reducible refine LeO.bind ?_ (fun _ => ?_))
      | exact ih0 _ _ _ _ _
      | exact ih1 _ _ _ _ _ _ _
      | exact tattlerref16_Weight.mono _ _ _
      | exact tattlerref16_in.mono _ _ _
      | exact LeO.none _
      | refine LeO.ite ?_ ?_
      | refine LeO.bind ?_ (fun _ => ?_)
    · intro y0 y1 y2 y3 y4 y5 y6
      unfold tattlerref16_best.j1
      repeat' first
      | (with_reducible exact ih0 _ _ _ _ _)
      | (with_reducible exact ih1 _ _ _ _ _ _ _)
      | (with_reducible exact tattlerref16_Weight.mono _ _ _)
      | (with_reducible exact tattlerref16_in.mono _ _ _)
      | (with_reducible exact LeO.refl _)
      | (with_reducible exact LeO.none _)
      | (with_reducible refine LeO.ite ?_ ?_)
      | (with_reducible refine LeO.bind ?_ (fun _ => ?_))
      | exact ih0 _ _ _ _ _
      | exact ih1 _ _ _ _ _ _ _
      | exact tattlerref16_Weight.mono _ _ _
      | exact tattlerref16_in.mono _ _ _
      | exact LeO.none _
      | refine LeO.ite ?_ ?_
      | refine LeO.bind ?_ (fun _ => ?_)
theorem tattlerref16_best.mono : ∀ a0 a1 a2 k, LeO (tattlerref16_best.f k a0 a1 a2) (tattlerref16_best.f (k + 1) a0 a1 a2) := by
  intro a0 a1 a2 k
  obtain ⟨ih0, ih1⟩ := tattlerref16_best.mono_l k
  unfold tattlerref16_best.f
  repeat' first
      | (with_reducible exact ih0 _ _ _ _ _)
      | (with_reducible exact ih1 _ _ _ _ _ _ _)
      | (with_reducible exact tattlerref16_Weight.mono _ _ _)
      | (with_reducible exact tattlerref16_in.mono _ _ _)
      | (with_reducible exact LeO.refl _)
      | (with_reducible exact LeO.none _)
      | (with_reducible refine LeO.ite ?_ ?_)
      | (with_reducible refine LeO.bind ?_ (fun _ => ?_))
      | exact ih0 _ _ _ _ _
      | exact ih1 _ _ _ _ _ _ _
      | exact tattlerref16_Weight.mono _ _ _
      | exact tattlerref16_in.mono _ _ _
      | exact LeO.none _
      | refine LeO.ite ?_ ?_
      | refine LeO.bind ?_ (fun _ => ?_)
set_option maxHeartbeats 8000000 in
set_option maxRecDepth 100000 in
theorem tattlerref16_best.calls (k : Nat) (a0 : ByteArray) (A1 : Option Addr) (c1 : Nat) (l1 : List Int) (a2 : Int) (r : Int) (w : World) (hr1 : Kd.C (Kd.int .u8) w A1 l1.length l1) (hc1 : l1.length ≤ c1) (h : tattlerref16_best.f k a0 l1 a2 = some r) :
    Calls Try.prog 34 #[.string a0, .slice A1 l1.length c1, .int .u8 a2] w fun e w' => e = .returned (.int .u8 r) ∧ Drawn0 w w' := by
  have HR1 := Aside0.mk hr1
  have HC1 := Aside0.mk hc1
  clear hr1 hc1
  have H : (tattlerref16_best.l0 k a0 l1 a2 255 0) = some r := h
  clear h
  have H' := Aside0.mk H
  clear H
  go_enter Try.func34, Try.ntmps34
  go_wp2
  go_loopg [7, 8] k (fun kq v7 v8 w' => ∃ (x7_1 : Int) (x8_1 : Int), v7 = .int .u8 x7_1 ∧ v8 = .int .i64 x8_1 ∧ Aside0 (tattlerref16_best.l0 kq a0 l1 a2 x7_1 x8_1 = some r) ∧ Aside0 (kq ≤ k) ∧ Drawn0 w w')
  case atStart => exact ⟨(255), (0), (by first | rfl | (simp; done) | (simp [*]; done)), (by first | rfl | (simp; done) | (simp [*]; done)), H', ⟨Nat.le_refl _⟩, by repeat (first | exact Drawn0.refl _ | apply Drawn0.step)⟩
  case round =>
    clear H'
    try clear c1
    try clear p2
    try clear c3
    obtain ⟨x7_1, x8_1, rfl, rfl, HA, HK1, ⟨m1, rfl⟩⟩ := hrel
    cases gk with
    | zero => exact absurd HA.out (by simp [tattlerref16_best.l0])
    | succ k1 =>
      have H := HA.out
      clear HA
      simp only [tattlerref16_best.l0] at H
      by_cases c4 : x8_1 < 64
      · rw [if_pos c4] at H
        have c4b0 : decide (x8_1 < 64) = true := decide_eq_true c4
        clear c4
        have HC5 := Aside0.mk H
        clear H
        go_upto_region 6 with (fail)
        go_cut [24] (fun v24 wc => ∃ (kq : Nat) (x24_4 : Bool), v24 = .bool x24_4 ∧ Aside0 (tattlerref16_best.j1 kq a0 l1 a2 x7_1 x8_1 ((x8_1) % 256) x24_4 = some r) ∧ Aside0 (kq ≤ k1) ∧ Drawn0 w wc)
        case first =>
          have H := HC5.out
          clear HC5
          by_cases c6 : ((x8_1) % 256) = a2
          · rw [if_pos c6] at H
            have c6b0 : (((x8_1) % 256) == a2) = true := beq_iff_eq.mpr c6
            have c6b1 : (((x8_1) % 256) != a2) = false := bne_eq_false_iff_eq.mpr c6
            clear c6
            (first | rw [c6b0] | (simp only [i64_w, i32_w]; rw [c6b0]) | skip)
            have H' := Aside0.mk H
            clear H
            go_wp2
            go_meet
            case rel => exact ⟨_, (true), (by first | rfl | (simp; done) | (simp [*]; done)), H', ⟨by have := HK1.out; first | omega | exact Nat.le_refl _⟩, by repeat (first | exact Drawn0.refl _ | apply Drawn0.step)⟩
          · rw [if_neg c6] at H
            have c6b0 : (((x8_1) % 256) == a2) = false := beq_eq_false_iff_ne.mpr c6
            have c6b1 : (((x8_1) % 256) != a2) = true := bne_iff_ne.mpr c6
            (first | rw [c6b0] | (simp only [i64_w, i32_w]; rw [c6b0]) | skip)
            replace H := Option.bind_eq_some_iff.mp H
            obtain ⟨t186, A70, H⟩ := H
            replace H : (tattlerref16_best.j1 k1 a0 l1 a2 x7_1 x8_1 ((x8_1) % 256) (!t186)) = some r := H
            have A7 := Aside0.mk A70
            clear A70
            have H' := Aside0.mk H
            clear H
            go_wp2_with (first | (go_at_call 33; (with_reducible refine (tattlerref16_in.calls k1 _ _ l1 ((x8_1) % 256) t186 _ ?side1 ?side2 A7.out).mono ?_); (case side1 => repeat (first | exact HR1.out | (with_reducible refine Kd.C_alloc ?_ _) | (with_reducible refine Kd.C_drewN ?_ _) | (with_reducible refine Kd.C_drew ?_))); (case side2 => exact HC1.out); rintro e w' ⟨rfl, ⟨nd, rfl⟩⟩))
            go_meet
            case rel => exact ⟨_, (!t186), (by first | rfl | (simp; done) | (simp [*]; done)), H', ⟨by have := HK1.out; first | omega | exact Nat.le_refl _⟩, by repeat (first | exact Drawn0.refl _ | apply Drawn0.step)⟩
        case rest =>
          clear HC5
          try clear c1
          try clear p2
          try clear c3
          try clear c4
          try clear c4b0
          try clear c6
          try clear c6b0
          try clear c6b1
          try clear p2
          obtain ⟨kq, x24_4, rfl, HA, HJ4, ⟨mc4, rfl⟩⟩ := hcut
          cases kq with
          | zero => exact absurd HA.out (by simp [tattlerref16_best.j1])
          | succ kj4 =>
            have H := HA.out
            clear HA
            simp only [tattlerref16_best.j1] at H
            by_cases c8 : x24_4 = true
            · subst c8
              have H1 : (tattlerref16_best.l0 kj4 a0 l1 a2 x7_1 (wrap64 (x8_1 + 1))) = some r := by rw [if_pos rfl] at H; exact H
              clear H
              have H := H1
              clear H1
              have H' := Aside0.mk H
              clear H
              go_wp2
              go_roundg kj4
              case measure => have := HK1.out; have := HJ4.out; omega
              case rel => exact ⟨(x7_1), (wrap64 (x8_1 + 1)), (by first | rfl | (simp; done) | (simp [*]; done)), (by first | rfl | (simp; done) | (simp [*]; done)), H', ⟨by have := HK1.out; have := HJ4.out; omega⟩, by repeat (first | exact Drawn0.refl _ | apply Drawn0.step)⟩
            · replace c8 := Bool.eq_false_iff.mpr c8
              subst c8
              have H1 : (if x7_1 = 255 then (tattlerref16_best.l0 kj4 a0 l1 a2 ((x8_1) % 256) (wrap64 (x8_1 + 1))) else ((tattlerref16_Weight.f kj4 a0 ((x8_1) % 256)).bind fun t187 => ((tattlerref16_Weight.f kj4 a0 x7_1).bind fun t188 => (if t187 > t188 then (tattlerref16_best.l0 kj4 a0 l1 a2 ((x8_1) % 256) (wrap64 (x8_1 + 1))) else (tattlerref16_best.l0 kj4 a0 l1 a2 x7_1 (wrap64 (x8_1 + 1))))))) = some r := by rw [if_neg (show ¬ (false = true) by decide)] at H; exact H
              clear H
              have H := H1
              clear H1
              by_cases c9 : x7_1 = 255
              · rw [if_pos c9] at H
                have c9b0 : (x7_1 == 255) = true := beq_iff_eq.mpr c9
                have c9b1 : (x7_1 != 255) = false := bne_eq_false_iff_eq.mpr c9
                clear c9
                have H' := Aside0.mk H
                clear H
                go_wp2
                go_roundg kj4
                case measure => have := HK1.out; have := HJ4.out; omega
                case rel => exact ⟨(((x8_1) % 256)), (wrap64 (x8_1 + 1)), (by first | rfl | (simp; done) | (simp [*]; done)), (by first | rfl | (simp; done) | (simp [*]; done)), H', ⟨by have := HK1.out; have := HJ4.out; omega⟩, by repeat (first | exact Drawn0.refl _ | apply Drawn0.step)⟩
              · rw [if_neg c9] at H
                have c9b0 : (x7_1 == 255) = false := beq_eq_false_iff_ne.mpr c9
                have c9b1 : (x7_1 != 255) = true := bne_iff_ne.mpr c9
                replace H := Option.bind_eq_some_iff.mp H
                obtain ⟨t187, A100, H⟩ := H
                replace H : ((tattlerref16_Weight.f kj4 a0 x7_1).bind fun t188 => (if t187 > t188 then (tattlerref16_best.l0 kj4 a0 l1 a2 ((x8_1) % 256) (wrap64 (x8_1 + 1))) else (tattlerref16_best.l0 kj4 a0 l1 a2 x7_1 (wrap64 (x8_1 + 1))))) = some r := H
                have A10 := Aside0.mk A100
                clear A100
                replace H := Option.bind_eq_some_iff.mp H
                obtain ⟨t188, A110, H⟩ := H
                replace H : (if t187 > t188 then (tattlerref16_best.l0 kj4 a0 l1 a2 ((x8_1) % 256) (wrap64 (x8_1 + 1))) else (tattlerref16_best.l0 kj4 a0 l1 a2 x7_1 (wrap64 (x8_1 + 1)))) = some r := H
                have A11 := Aside0.mk A110
                clear A110
                by_cases c12 : t187 > t188
                · rw [if_pos c12] at H
                  have c12b0 : decide (t188 < t187) = true := decide_eq_true c12
                  clear c12
                  have H' := Aside0.mk H
                  clear H
                  go_wp2_with (first | (go_at_call 57; (with_reducible refine (tattlerref16_Weight.calls kj4 a0 ((x8_1) % 256) t187 _ A10.out).mono ?_); rintro e w' ⟨rfl, ⟨nd, rfl⟩⟩) | (go_at_call 57; (with_reducible refine (tattlerref16_Weight.calls kj4 a0 x7_1 t188 _ A11.out).mono ?_); rintro e w' ⟨rfl, ⟨nd, rfl⟩⟩))
                  go_roundg kj4
                  case measure => have := HK1.out; have := HJ4.out; omega
                  case rel => exact ⟨(((x8_1) % 256)), (wrap64 (x8_1 + 1)), (by first | rfl | (simp; done) | (simp [*]; done)), (by first | rfl | (simp; done) | (simp [*]; done)), H', ⟨by have := HK1.out; have := HJ4.out; omega⟩, by repeat (first | exact Drawn0.refl _ | apply Drawn0.step)⟩
                · rw [if_neg c12] at H
                  have c12b0 : decide (t188 < t187) = false := decide_eq_false c12
                  clear c12
                  have H' := Aside0.mk H
                  clear H
                  go_wp2_with (first | (go_at_call 57; (with_reducible refine (tattlerref16_Weight.calls kj4 a0 ((x8_1) % 256) t187 _ A10.out).mono ?_); rintro e w' ⟨rfl, ⟨nd, rfl⟩⟩) | (go_at_call 57; (with_reducible refine (tattlerref16_Weight.calls kj4 a0 x7_1 t188 _ A11.out).mono ?_); rintro e w' ⟨rfl, ⟨nd, rfl⟩⟩))
                  go_roundg kj4
                  case measure => have := HK1.out; have := HJ4.out; omega
                  case rel => exact ⟨(x7_1), (wrap64 (x8_1 + 1)), (by first | rfl | (simp; done) | (simp [*]; done)), (by first | rfl | (simp; done) | (simp [*]; done)), H', ⟨by have := HK1.out; have := HJ4.out; omega⟩, by repeat (first | exact Drawn0.refl _ | apply Drawn0.step)⟩
      · rw [if_neg c4] at H
        have c4b0 : decide (x8_1 < 64) = false := decide_eq_false c4
        clear c4
        obtain rfl := Option.some.inj H
        go_wp2
        go_ret
        exact ⟨by first | rfl | (simp; done) | (simp [*]; done), by repeat (first | exact Drawn0.refl _ | apply Drawn0.step)⟩

/-! ### tattlerref16_Owners: function 16 -/
def tattlerref16_Owners.f (k : Nat) (a0 : ByteArray) (l1 : List Int) : Option (List Int) := (some (([] : List Int) : List Int)).bind fun y189 => ((tattlerref16_best.f k a0 l1 255).bind fun t192 => (if t192 = 255 then (some y189) else (if y189.length < 140737488355328 then ((some (y189 ++ [t192] : List Int)).bind fun y193 => ((tattlerref16_best.f k a0 l1 t192).bind fun t196 => (if t196 = 255 then (some y193) else (if y193.length < 140737488355328 then (some (y193 ++ [t196])) else (none))))) else (none))))
theorem tattlerref16_Owners.mono : ∀ a0 a1 k, LeO (tattlerref16_Owners.f k a0 a1) (tattlerref16_Owners.f (k + 1) a0 a1) := by
  intro a0 a1 k
  unfold tattlerref16_Owners.f
  repeat' first
      | (with_reducible exact tattlerref16_best.mono _ _ _ _)
      | (with_reducible exact LeO.refl _)
      | (with_reducible exact LeO.none _)
      | (with_reducible refine LeO.ite ?_ ?_)
      | (with_reducible refine LeO.bind ?_ (fun _ => ?_))
      | exact tattlerref16_best.mono _ _ _ _
      | exact LeO.none _
      | refine LeO.ite ?_ ?_
      | refine LeO.bind ?_ (fun _ => ?_)
set_option maxHeartbeats 8000000 in
set_option maxRecDepth 100000 in
theorem tattlerref16_Owners.calls (k : Nat) (a0 : ByteArray) (A1 : Option Addr) (c1 : Nat) (l1 : List Int) (r : List Int) (w : World) (hr1 : Kd.C (Kd.int .u8) w A1 l1.length l1) (hc1 : l1.length ≤ c1) (h : tattlerref16_Owners.f k a0 l1 = some r) :
    Calls Try.prog 16 #[.string a0, .slice A1 l1.length c1] w fun e w' => ∃ v0_ : Value, e = .returned (v0_) ∧ Kd.R (Kd.int .u8) 5 w' w.heap.size (fun _ => True) v0_ r ∧ Below w.heap.size w w' := by
  have HR1 := Aside0.mk hr1
  have HC1 := Aside0.mk hc1
  clear hr1 hc1
  have HB := Aside0.mk (Below.refl w.heap.size w)
  have H : ((some (([] : List Int) : List Int)).bind fun y189 => ((tattlerref16_best.f k a0 l1 255).bind fun t192 => (if t192 = 255 then (some y189) else (if y189.length < 140737488355328 then ((some (y189 ++ [t192] : List Int)).bind fun y193 => ((tattlerref16_best.f k a0 l1 t192).bind fun t196 => (if t196 = 255 then (some y193) else (if y193.length < 140737488355328 then (some (y193 ++ [t196])) else (none))))) else (none))))) = some r := h
  clear h
  obtain ⟨y189, hy189⟩ : ∃ y_ : List Int, y_ = (([] : List Int)) := ⟨_, rfl⟩
  replace H : ((tattlerref16_best.f k a0 l1 255).bind fun t192 => (if t192 = 255 then (some y189) else (if y189.length < 140737488355328 then ((some (y189 ++ [t192] : List Int)).bind fun y193 => ((tattlerref16_best.f k a0 l1 t192).bind fun t196 => (if t196 = 255 then (some y193) else (if y193.length < 140737488355328 then (some (y193 ++ [t196])) else (none))))) else (none)))) = some r := by first | (rw [hy189]; with_reducible exact H) | (have H2_ := (Option.bind_some _ _).symm.trans H; rw [hy189]; with_reducible exact H2_) | (have H2_ := (Option.bind_some _ _).symm.trans H; with_reducible exact H2_) | with_reducible exact H | (rw [hy189]; exact H) | exact H
  have Ny189 := Aside0.mk hy189
  clear hy189
  replace H := Option.bind_eq_some_iff.mp H
  obtain ⟨t192, A30, H⟩ := H
  replace H : (if t192 = 255 then (some y189) else (if y189.length < 140737488355328 then ((some (y189 ++ [t192] : List Int)).bind fun y193 => ((tattlerref16_best.f k a0 l1 t192).bind fun t196 => (if t196 = 255 then (some y193) else (if y193.length < 140737488355328 then (some (y193 ++ [t196])) else (none))))) else (none))) = some r := H
  have A3 := Aside0.mk A30
  clear A30
  by_cases c4 : t192 = 255
  · rw [if_pos c4] at H
    have c4b0 : (t192 == 255) = true := beq_iff_eq.mpr c4
    have c4b1 : (t192 != 255) = false := bne_eq_false_iff_eq.mpr c4
    clear c4
    obtain rfl := Option.some.inj H
    go_enter Try.func16, Try.ntmps16
    go_wp2_with (first | ((with_reducible refine gate_dst (N := 8) rfl ?_); refine Kd.R_lit (Kd.int .u8) _ 5 ?hg (N := 8) ?hd (xs := ([] : List Int)) (inner := []) (ok := fun _ => True) (okp := fun _ => True) ?hr ?hp (fun _ hk => hk) trivial (Below.refl _ _) (Nat.le_refl _) (by simp) ?_; (case hd => rfl); (case hg => rfl); (case hr => first | (go_simp; done) | (go_simp; rfl)); (case hp => exact (Reps.none _ _)); intro v190 w5 ho6 hb hg_ hnew_; clear hg_ hnew_; (first | rw [← Ny189.out] at ho6 | (simp only [Int.reduceToNat] at ho6; rw [← Ny189.out] at ho6)); have n0_ := Aside0.mk (Kd.R_lower ho6 (below_size (by repeat (first | (with_reducible first | exact HB.out | apply below_alloc | apply pw_below_drewN | apply below_drew1) | exact HB.out)))); have n1_ := Aside0.mk (below_step (by repeat (first | (with_reducible first | exact HB.out | apply below_alloc | apply pw_below_drewN | apply below_drew1) | exact HB.out)) hb); clear HB; have HO191 := n0_; have HB := n1_; clear n0_ n1_; clear hb ho6) | ((with_reducible refine gate_callee (f := 34) rfl ?_); refine goesL_ (some 11) rfl rfl Try.func34 (by kernel_rfl) rfl #[.string a0, .slice A1 l1.length c1, .int .u8 255] rfl (by (try simp only [List.map_toArray, List.map_cons, List.map_nil]); first | done | rfl | (simp only [List.length_drop, List.length_take]; rfl)) ?_; (with_reducible refine (tattlerref16_best.calls k a0 _ _ l1 255 t192 _ ?side1 ?side2 A3.out).mono ?_); (case side1 => repeat (first | exact (Kd.C_below HR1.out HB.out) | (with_reducible refine Kd.C_alloc ?_ _) | (with_reducible refine Kd.C_drewN ?_ _) | (with_reducible refine Kd.C_drew ?_))); (case side2 => exact HC1.out); rintro e w' ⟨rfl, ⟨nd, rfl⟩⟩; refine ⟨_, rfl, ?_⟩))
    go_ret
    exact ⟨_, by first | rfl | (simp [errW_none, errW_some] <;> rfl) | (simp [*, errW_none, errW_some] <;> rfl), by (with_reducible repeat (first | apply Kd.R_alloc | apply Kd.R_drewN | apply Kd.R_drew)); exact HO191.out, by repeat (first | (with_reducible first | exact HB.out | apply below_alloc | apply pw_below_drewN | apply below_drew1) | exact HB.out)⟩
  · rw [if_neg c4] at H
    have c4b0 : (t192 == 255) = false := beq_eq_false_iff_ne.mpr c4
    have c4b1 : (t192 != 255) = true := bne_iff_ne.mpr c4
    by_cases c7 : y189.length < 140737488355328
    · rw [if_pos c7] at H
      have LMc7 := Aside0.mk c7
      clear c7
      obtain ⟨y193, hy193⟩ : ∃ y_ : List Int, y_ = (y189 ++ [t192]) := ⟨_, rfl⟩
      replace H : ((tattlerref16_best.f k a0 l1 t192).bind fun t196 => (if t196 = 255 then (some y193) else (if y193.length < 140737488355328 then (some (y193 ++ [t196])) else (none)))) = some r := by first | (rw [hy193]; with_reducible exact H) | (have H2_ := (Option.bind_some _ _).symm.trans H; rw [hy193]; with_reducible exact H2_) | (have H2_ := (Option.bind_some _ _).symm.trans H; with_reducible exact H2_) | with_reducible exact H | (rw [hy193]; exact H) | exact H
      have Ny193 := Aside0.mk hy193
      clear hy193
      replace H := Option.bind_eq_some_iff.mp H
      obtain ⟨t196, A80, H⟩ := H
      replace H : (if t196 = 255 then (some y193) else (if y193.length < 140737488355328 then (some (y193 ++ [t196])) else (none))) = some r := H
      have A8 := Aside0.mk A80
      clear A80
      by_cases c9 : t196 = 255
      · rw [if_pos c9] at H
        have c9b0 : (t196 == 255) = true := beq_iff_eq.mpr c9
        have c9b1 : (t196 != 255) = false := bne_eq_false_iff_eq.mpr c9
        clear c9
        obtain rfl := Option.some.inj H
        go_enter Try.func16, Try.ntmps16
        go_wp2_with (first | ((with_reducible refine gate_dst (N := 8) rfl ?_); refine Kd.R_lit (Kd.int .u8) _ 5 ?hg (N := 8) ?hd (xs := ([] : List Int)) (inner := []) (ok := fun _ => True) (okp := fun _ => True) ?hr ?hp (fun _ hk => hk) trivial (Below.refl _ _) (Nat.le_refl _) (by simp) ?_; (case hd => rfl); (case hg => rfl); (case hr => first | (go_simp; done) | (go_simp; rfl)); (case hp => exact (Reps.none _ _)); intro v190 w10 ho11 hb hg_ hnew_; clear hg_ hnew_; (first | rw [← Ny189.out] at ho11 | (simp only [Int.reduceToNat] at ho11; rw [← Ny189.out] at ho11)); have n0_ := Aside0.mk (Kd.R_lower ho11 (below_size (by repeat (first | (with_reducible first | exact HB.out | apply below_alloc | apply pw_below_drewN | apply below_drew1) | exact HB.out)))); have n1_ := Aside0.mk (below_step (by repeat (first | (with_reducible first | exact HB.out | apply below_alloc | apply pw_below_drewN | apply below_drew1) | exact HB.out)) hb); clear HB; have HO191 := n0_; have HB := n1_; clear n0_ n1_; clear hb ho11) | ((with_reducible refine gate_callee (f := 34) rfl ?_); refine goesL_ (some 11) rfl rfl Try.func34 (by kernel_rfl) rfl #[.string a0, .slice A1 l1.length c1, .int .u8 255] rfl (by (try simp only [List.map_toArray, List.map_cons, List.map_nil]); first | done | rfl | (simp only [List.length_drop, List.length_take]; rfl)) ?_; (with_reducible refine (tattlerref16_best.calls k a0 _ _ l1 255 t192 _ ?side1 ?side2 A3.out).mono ?_); (case side1 => repeat (first | exact (Kd.C_below HR1.out HB.out) | (with_reducible refine Kd.C_alloc ?_ _) | (with_reducible refine Kd.C_drewN ?_ _) | (with_reducible refine Kd.C_drew ?_))); (case side2 => exact HC1.out); rintro e w' ⟨rfl, ⟨nd, rfl⟩⟩; refine ⟨_, rfl, ?_⟩) | ((with_reducible refine gate_builtin (b := .append) (xs := #[.tmp 15, .tmp 17]) rfl ?_); at_builtin; refine Kd.R_append (Kd.int .u8) (w0 := w) w.heap.size rfl (.tmp 15) (.tmp 17) 23 5 (.int .u8 0) 1 rfl Try.underlying23 info5 rfl (by decide) (by omega) v190 y189 t192 [.int .u8 t192] (fun _ => True) (fun _ => False) rfl rfl ?aP (fun _ hk => hk.elim) ?aF ?aO ?aB ?aS ?aL ?_; (case aP => exact rfl); (case aB => exact (by repeat (first | (with_reducible first | exact HB.out | apply below_alloc | apply pw_below_drewN | apply below_drew1) | exact HB.out))); (case aF => exact (fun _ _ => trivial)); (case aO => exact (by (with_reducible repeat (first | apply Kd.R_alloc | apply Kd.R_drewN | apply Kd.R_drew)); exact HO191.out)); (case aS => exact (below_size (by repeat (first | (with_reducible first | exact HB.out | apply below_alloc | apply pw_below_drewN | apply below_drew1) | exact HB.out)))); (case aL => have := LMc7.out; omega); intro v194 w12 ho hb hg hat; rw [← Ny193.out] at ho; have n0_ := Aside0.mk (hb); have n1_ := Aside0.mk (ho); clear HB; clear HO191; have HB := n0_; have HO195 := n1_; clear n0_ n1_; clear ho hb hg hat) | ((with_reducible refine gate_callee (f := 34) rfl ?_); refine goesL_ (some 22) rfl rfl Try.func34 (by kernel_rfl) rfl #[.string a0, .slice A1 l1.length c1, .int .u8 t192] rfl (by (try simp only [List.map_toArray, List.map_cons, List.map_nil]); first | done | rfl | (simp only [List.length_drop, List.length_take]; rfl)) ?_; (with_reducible refine (tattlerref16_best.calls k a0 _ _ l1 t192 t196 _ ?side1 ?side2 A8.out).mono ?_); (case side1 => repeat (first | exact (Kd.C_below HR1.out HB.out) | (with_reducible refine Kd.C_alloc ?_ _) | (with_reducible refine Kd.C_drewN ?_ _) | (with_reducible refine Kd.C_drew ?_))); (case side2 => exact HC1.out); rintro e w' ⟨rfl, ⟨nd, rfl⟩⟩; refine ⟨_, rfl, ?_⟩))
        go_ret
        exact ⟨_, by first | rfl | (simp [errW_none, errW_some] <;> rfl) | (simp [*, errW_none, errW_some] <;> rfl), by (with_reducible repeat (first | apply Kd.R_alloc | apply Kd.R_drewN | apply Kd.R_drew)); exact HO195.out, by repeat (first | (with_reducible first | exact HB.out | apply below_alloc | apply pw_below_drewN | apply below_drew1) | exact HB.out)⟩
      · rw [if_neg c9] at H
        have c9b0 : (t196 == 255) = false := beq_eq_false_iff_ne.mpr c9
        have c9b1 : (t196 != 255) = true := bne_iff_ne.mpr c9
        by_cases c13 : y193.length < 140737488355328
        · rw [if_pos c13] at H
          have LMc13 := Aside0.mk c13
          clear c13
          obtain ⟨y197, hy197⟩ : ∃ y_ : List Int, y_ = (y193 ++ [t196]) := ⟨_, rfl⟩
          replace H : (some y197) = some r := by first | (rw [hy197]; with_reducible exact H) | (have H2_ := (Option.bind_some _ _).symm.trans H; rw [hy197]; with_reducible exact H2_) | (have H2_ := (Option.bind_some _ _).symm.trans H; with_reducible exact H2_) | with_reducible exact H | (rw [hy197]; exact H) | exact H
          have Ny197 := Aside0.mk hy197
          clear hy197
          obtain rfl := Option.some.inj H
          go_enter Try.func16, Try.ntmps16
          go_wp2_with (first | ((with_reducible refine gate_dst (N := 8) rfl ?_); refine Kd.R_lit (Kd.int .u8) _ 5 ?hg (N := 8) ?hd (xs := ([] : List Int)) (inner := []) (ok := fun _ => True) (okp := fun _ => True) ?hr ?hp (fun _ hk => hk) trivial (Below.refl _ _) (Nat.le_refl _) (by simp) ?_; (case hd => rfl); (case hg => rfl); (case hr => first | (go_simp; done) | (go_simp; rfl)); (case hp => exact (Reps.none _ _)); intro v190 w14 ho15 hb hg_ hnew_; clear hg_ hnew_; (first | rw [← Ny189.out] at ho15 | (simp only [Int.reduceToNat] at ho15; rw [← Ny189.out] at ho15)); have n0_ := Aside0.mk (Kd.R_lower ho15 (below_size (by repeat (first | (with_reducible first | exact HB.out | apply below_alloc | apply pw_below_drewN | apply below_drew1) | exact HB.out)))); have n1_ := Aside0.mk (below_step (by repeat (first | (with_reducible first | exact HB.out | apply below_alloc | apply pw_below_drewN | apply below_drew1) | exact HB.out)) hb); clear HB; have HO191 := n0_; have HB := n1_; clear n0_ n1_; clear hb ho15) | ((with_reducible refine gate_callee (f := 34) rfl ?_); refine goesL_ (some 11) rfl rfl Try.func34 (by kernel_rfl) rfl #[.string a0, .slice A1 l1.length c1, .int .u8 255] rfl (by (try simp only [List.map_toArray, List.map_cons, List.map_nil]); first | done | rfl | (simp only [List.length_drop, List.length_take]; rfl)) ?_; (with_reducible refine (tattlerref16_best.calls k a0 _ _ l1 255 t192 _ ?side1 ?side2 A3.out).mono ?_); (case side1 => repeat (first | exact (Kd.C_below HR1.out HB.out) | (with_reducible refine Kd.C_alloc ?_ _) | (with_reducible refine Kd.C_drewN ?_ _) | (with_reducible refine Kd.C_drew ?_))); (case side2 => exact HC1.out); rintro e w' ⟨rfl, ⟨nd, rfl⟩⟩; refine ⟨_, rfl, ?_⟩) | ((with_reducible refine gate_builtin (b := .append) (xs := #[.tmp 15, .tmp 17]) rfl ?_); at_builtin; refine Kd.R_append (Kd.int .u8) (w0 := w) w.heap.size rfl (.tmp 15) (.tmp 17) 23 5 (.int .u8 0) 1 rfl Try.underlying23 info5 rfl (by decide) (by omega) v190 y189 t192 [.int .u8 t192] (fun _ => True) (fun _ => False) rfl rfl ?aP (fun _ hk => hk.elim) ?aF ?aO ?aB ?aS ?aL ?_; (case aP => exact rfl); (case aB => exact (by repeat (first | (with_reducible first | exact HB.out | apply below_alloc | apply pw_below_drewN | apply below_drew1) | exact HB.out))); (case aF => exact (fun _ _ => trivial)); (case aO => exact (by (with_reducible repeat (first | apply Kd.R_alloc | apply Kd.R_drewN | apply Kd.R_drew)); exact HO191.out)); (case aS => exact (below_size (by repeat (first | (with_reducible first | exact HB.out | apply below_alloc | apply pw_below_drewN | apply below_drew1) | exact HB.out)))); (case aL => have := LMc7.out; omega); intro v194 w16 ho hb hg hat; rw [← Ny193.out] at ho; have n0_ := Aside0.mk (hb); have n1_ := Aside0.mk (ho); clear HB; clear HO191; have HB := n0_; have HO195 := n1_; clear n0_ n1_; clear ho hb hg hat) | ((with_reducible refine gate_callee (f := 34) rfl ?_); refine goesL_ (some 22) rfl rfl Try.func34 (by kernel_rfl) rfl #[.string a0, .slice A1 l1.length c1, .int .u8 t192] rfl (by (try simp only [List.map_toArray, List.map_cons, List.map_nil]); first | done | rfl | (simp only [List.length_drop, List.length_take]; rfl)) ?_; (with_reducible refine (tattlerref16_best.calls k a0 _ _ l1 t192 t196 _ ?side1 ?side2 A8.out).mono ?_); (case side1 => repeat (first | exact (Kd.C_below HR1.out HB.out) | (with_reducible refine Kd.C_alloc ?_ _) | (with_reducible refine Kd.C_drewN ?_ _) | (with_reducible refine Kd.C_drew ?_))); (case side2 => exact HC1.out); rintro e w' ⟨rfl, ⟨nd, rfl⟩⟩; refine ⟨_, rfl, ?_⟩) | ((with_reducible refine gate_builtin (b := .append) (xs := #[.tmp 25, .tmp 27]) rfl ?_); at_builtin; refine Kd.R_append (Kd.int .u8) (w0 := w) w.heap.size rfl (.tmp 25) (.tmp 27) 23 5 (.int .u8 0) 1 rfl Try.underlying23 info5 rfl (by decide) (by omega) v194 y193 t196 [.int .u8 t196] (fun _ => True) (fun _ => False) rfl rfl ?aP (fun _ hk => hk.elim) ?aF ?aO ?aB ?aS ?aL ?_; (case aP => exact rfl); (case aB => exact (by repeat (first | (with_reducible first | exact HB.out | apply below_alloc | apply pw_below_drewN | apply below_drew1) | exact HB.out))); (case aF => exact (fun _ _ => trivial)); (case aO => exact (by (with_reducible repeat (first | apply Kd.R_alloc | apply Kd.R_drewN | apply Kd.R_drew)); exact HO195.out)); (case aS => exact (below_size (by repeat (first | (with_reducible first | exact HB.out | apply below_alloc | apply pw_below_drewN | apply below_drew1) | exact HB.out)))); (case aL => have := LMc13.out; omega); intro v198 w17 ho hb hg hat; rw [← Ny197.out] at ho; have n0_ := Aside0.mk (hb); have n1_ := Aside0.mk (ho); clear HB; clear HO195; have HB := n0_; have HO199 := n1_; clear n0_ n1_; clear ho hb hg hat))
          go_ret
          exact ⟨_, by first | rfl | (simp [errW_none, errW_some] <;> rfl) | (simp [*, errW_none, errW_some] <;> rfl), by (with_reducible repeat (first | apply Kd.R_alloc | apply Kd.R_drewN | apply Kd.R_drew)); exact HO199.out, by repeat (first | (with_reducible first | exact HB.out | apply below_alloc | apply pw_below_drewN | apply below_drew1) | exact HB.out)⟩
        · rw [if_neg c13] at H
          exact absurd H (by simp)
    · rw [if_neg c7] at H
      exact absurd H (by simp)





end Go.Proofs.Ytmpodcefngpnkaa.PHintPlays
