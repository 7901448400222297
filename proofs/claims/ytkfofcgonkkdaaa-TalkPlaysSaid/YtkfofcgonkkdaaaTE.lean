import Derived.Test.YtkfofcgonkkdaaaTD
import Derived.Test.YtkfofcgonkkdaaaCell
namespace Go.Proofs.Ytkfofcgonkkdaaa
open Go.RowKit Go.Tat Go.Proofs.YtkfofcgonkkdaaaW.PrintWords PTalkPlays
def told1 (x : S60) : S60 := { x with f1 := x.f1 + 1 }
def bump (j : Nat) (ys : List S60) : List S60 := (ys.take j).map told1 ++ ys.drop j
theorem bump_zero (ys : List S60) : bump 0 ys = ys := rfl
theorem bump_len (j : Nat) (ys : List S60) : (bump j ys).length = ys.length := by
  unfold bump
  rw [List.length_append, List.length_map, List.length_take, List.length_drop]
  omega
theorem bump_at {j : Nat} {ys : List S60} {u : S60} (h : ys[j]? = some u) : (bump j ys)[j]? = some u := by
  obtain ⟨hj, he⟩ := List.getElem?_eq_some_iff.1 h
  unfold bump
  rw [List.getElem?_append_right (by rw [List.length_map, List.length_take]; omega), List.length_map, List.length_take, List.getElem?_drop, Nat.min_eq_left (by omega), Nat.sub_self]
  exact h
theorem bump_succ {j : Nat} {ys : List S60} {u : S60} (h : ys[j]? = some u) : (bump j ys).set j (told1 u) = bump (j + 1) ys := by
  obtain ⟨hj, he⟩ := List.getElem?_eq_some_iff.1 h
  unfold bump
  rw [List.set_append_right _ _ (by rw [List.length_map, List.length_take]; omega), List.length_map, List.length_take, Nat.min_eq_left (by omega), Nat.sub_self, List.drop_eq_getElem_cons hj, he, List.set_cons_zero, List.take_add_one, h]
  simp
theorem took_succ {j : Nat} {ys : List S60} {u : S60} (h : ys[j]? = some u) : (ys.take j).map (fun x => x.f0) ++ [u.f0] = (ys.take (j + 1)).map (fun x => x.f0) := by
  rw [List.take_add_one, h]
  simp
theorem info33 : (Try.prog.info? 33).map (fun i => (i.zero, i.size, i.bytes)) = some (some (.agg #[.int .u8 0, .int .u8 0, .int .u32 0]), 3, 12) := by kernel_rfl
theorem says20 {w : World} {z g : Nat} {t : Int} {F : Nat → Prop} (h : w.cell? ⟨z, 0, none⟩ = some (.pointer (some ⟨g, 0, none⟩))) (h2 : w.cell? ⟨g, 1, none⟩ = some (.int .i64 t)) (hF : ¬ F z) (hG : ¬ F g) : Q60.Says 20 #[.pointer (some ⟨z, 0, none⟩)] (fun y => decide (t ≤ y.f1)) F w := by
  intro W x m
  have hz := World.block_lt_of_cell? w _ h
  have c := (World.cell?_of_block (a := ⟨z, 0, none⟩) (m.block z hz hF)).trans h
  have hg := World.block_lt_of_cell? w _ h2
  have c2 := (World.cell?_of_block (a := ⟨g, 1, none⟩) (m.block g hg hG)).trans h2
  obtain ⟨⟨xn, xs, xi⟩, xt, xc⟩ := x
  have hzl := World.block_lt_of_cell? W _ c
  have hgl := World.block_lt_of_cell? W _ c2
  have S0 : St (fun _ => False) W W [] := St.nil _ W
  have S1 := S0.new #[.int .u8 xn, .int .u8 xs, .int .u32 xi, .int .i64 xt, .int .i64 xc] 60
  have q1 := (World.cell?_of_block (a := ⟨z, 0, none⟩) (S1.mod.block z hzl (fun h => h))).trans c
  have q2 := (World.cell?_of_block (a := ⟨g, 1, none⟩) (S1.mod.block g hgl (fun h => h))).trans c2
  have q3 : (W.alloc (.cells #[.int .u8 xn, .int .u8 xs, .int .u32 xi, .int .i64 xt, .int .i64 xc] 60)).cell? ⟨W.heap.size, 3, none⟩ = some (.int .i64 xt) := S1.cell 0 rfl 3
  have B := Lib.hid ((Below.refl W.heap.size W).alloc (Nat.le_refl _) (.cells #[.int .u8 xn, .int .u8 xs, .int .u32 xi, .int .i64 xt, .int .i64 xc] 60))
  unfold e60
  clear h h2 hz hg m S0 S1 hzl hgl c c2
  go_enter Try.func20, Try.ntmps20
  go_upto_region 1 with fail
  generalize World.alloc W _ = W1 at *
  go_quiet (fail)
  go_wp2
  go_ret
  exact ⟨rfl, pw_below_drewN B.out _⟩
def takeN (p : Tk) : Nat := (min p.most (p.pieces.length : Int)).toNat
def takeF (p : Tk) (ys : List S60) : Tk := { p with pieces := (bump (takeN p) ys).filter fun x => !decide (p.times ≤ x.f1) }
def takeO (p : Tk) (ys : List S60) : List S33 := (ys.take (takeN p)).map (fun x => x.f0)
def takePost (F : Nat → Prop) (w0 : World) (A : List Asr) (i g : Nat) (p : Tk) (e : Ending) (w' : World) : Prop :=
  ∃ v' ys S', e = .returned v' ∧ ys.Perm p.pieces ∧ Sorted60 ys ∧ St F w0 w' (A.set i (tO g S' (takeF p ys)) ++ [slc k33 33 v' (takeO p ys)])
set_option maxRecDepth 100000 in
set_option maxHeartbeats 4000000 in
theorem take_st {F : Nat → Prop} {w0 w : World} {A : List Asr} (h : St F w0 w A) (i : Nat) {g : Nat} {S : Nat → Prop} {p : Tk} (hi : A[i]? = some (tO g S p)) (hl : p.pieces.length ≤ 1000000) (hm : 1 ≤ p.most ∧ p.most ≤ 64) (ht : ∀ x ∈ p.pieces, 0 ≤ x.f1 ∧ x.f1 ≤ 1000) :
    Calls Try.prog 11 #[.pointer (some ⟨g, 0, none⟩)] w (takePost F w0 A i g p) := by
  obtain ⟨v, S1⟩ := Asr.ex_open (h.get i hi)
  obtain ⟨Av, cv, rfl⟩ := Kd.R_slice (S1.get 1 rfl).1
  have HO := Lib.hid (And.intro h hi)
  have g0 : w.cell? ⟨g, 0, none⟩ = some (.slice Av p.pieces.length cv) := S1.cell 0 rfl 0
  have hgl := S1.blt 0 rfl
  obtain ⟨z, hz⟩ : ∃ z, w.heap.size = z := ⟨_, rfl⟩
  have S2 := S1.new' #[.pointer (some ⟨g, 0, none⟩)] 23 z hz
  rw [hz] at hgl
  have HS := Lib.hid (sort_c _ _ _ (S2.get 1 rfl) (by omega))
  have g0' : (w.alloc (.cells #[.pointer (some ⟨g, 0, none⟩)] 23)).cell? ⟨g, 0, none⟩ = some (.slice Av p.pieces.length cv) := S2.cell 0 rfl 0
  have z0' : (w.alloc (.cells #[.pointer (some ⟨g, 0, none⟩)] 23)).cell? ⟨z, 0, none⟩ = some (.pointer (some ⟨g, 0, none⟩)) := S2.cell 2 rfl 0
  have H1 := Lib.hid S2
  have hm' := Lib.hid (And.intro hl hm)
  have HT := Lib.hid ht
  clear h hi S1 S2 hl hm ht
  go_enter Try.func11, Try.ntmps11
  go_upto_region 1 with fail
  have HZ := Lib.hid hz
  clear hz
  generalize w.alloc _ = w0' at *
  go_wp2_with fail
  refine HS.out.mono ?_
  rintro e w1 ⟨rfl, ys, hpm, hso, hR1, m1⟩
  obtain ⟨A1, c1, hv1⟩ := Kd.R_slice hR1.1
  have S2 := H1.out.upd 1 rfl m1 (a' := slc k60 60 (.slice Av p.pieces.length cv) ys) hR1 (fun k hk => .inl hk)
  have hly := hpm.length_eq
  rw [← hly] at S2
  have g0 : w1.cell? ⟨g, 0, none⟩ = some (.slice Av ys.length cv) := S2.cell 0 rfl 0
  have z0 : w1.cell? ⟨z, 0, none⟩ = some (.pointer (some ⟨g, 0, none⟩)) := S2.cell 2 rfl 0
  have g2 : w1.cell? ⟨g, 2, none⟩ = some (.int .i64 p.most) := S2.cell 0 rfl 2
  have S2' := Lib.hid S2
  have H2 := Lib.hid S2
  clear HS H1 S2 hv1 hR1 m1 g0' z0'
  have hmm := hm'.out
  obtain ⟨A1, c1, hv1, hc1, hC1⟩ := S2'.out.slice 1 rfl
  cases hv1
  clear S2'
  generalize hy : ys.length = N at *
  obtain ⟨m, hm⟩ : ∃ m : Nat, min p.most (N : Int) = m := ⟨(min p.most (N : Int)).toNat, by omega⟩
  have hmN : m ≤ N := by omega
  have hm0 : (0 : Int) ≤ (m : Int) := by omega
  have hm1 : (m : Int) ≤ (cv : Int) := by omega
  have hmx : max (m : Int) 0 = (m : Int) := by omega
  have HY := Lib.hid (And.intro hy hly)
  have HM := Lib.hid hm
  clear hy hly
  clear hmm
  go_upto_region 5 with fail
  go_quiet (fail)
  have S3 := (H2.out.drewN nq).nils k33 33
  clear g0 z0 g2 H2 hC1 hc1 hm
  generalize w1.drewN nq = w3 at *
  have H3 := Lib.hid S3
  clear S3 hm0 hm1
  go_wp2_with fail
  go_loopg [3, 29] (m + 1) (fun q v3 v29 wx => ∃ j : Nat, v29 = .int .i64 j ∧ j ≤ m ∧ m - j < q ∧ St S w wx [blk g #[.slice Av N cv, .int .i64 p.times, .int .i64 p.most, .int .i64 p.came] 53, slc k60 60 (.slice Av N cv) (bump j ys), blk z #[.pointer (some ⟨g, 0, none⟩)] 23, slc k33 33 v3 ((ys.take j).map (fun x => x.f0))])
  case atStart => exact ⟨0, rfl, Nat.zero_le _, by omega, H3.out⟩
  case round =>
    clear H3
    obtain ⟨j, rfl, hj, hq, S4⟩ := hrel
    have hol : ((ys.take j).map (fun x => x.f0)).length ≤ ys.length := by rw [List.length_map, List.length_take]; omega
    generalize ho : (ys.take j).map (fun x => x.f0) = os at *
    obtain ⟨A4, c4, rfl⟩ := Kd.R_slice (S4.get 3 rfl).1
    by_cases hjm : j < m
    · have hy := HY.out
      obtain ⟨u, hu⟩ : ∃ u, ys[j]? = some u := ⟨_, List.getElem?_eq_getElem (by omega)⟩
      obtain ⟨gb, cb, hv, hgb, hcb⟩ := slc_form (S4.get 1 rfl) (by rw [bump_len]; omega)
      injection hv with hv1 hvl hv2
      subst hv1; subst hv2
      clear hvl
      have g0 : wr.cell? ⟨g, 0, none⟩ = some (Value.slice (some ⟨gb, 0, none⟩) N cv) := S4.cell 0 rfl 0
      have z0 : wr.cell? ⟨z, 0, none⟩ = some (Value.pointer (some ⟨g, 0, none⟩)) := S4.cell 2 rfl 0
      have E0 : ∀ c, c < 5 → wr.cell? ⟨gb, j * 5 + c, none⟩ = (e60 u)[c]? ∧ wr.frozen? ⟨gb, j * 5 + c, none⟩ = false := fun c hc => (S4.elem fl60 1 rfl (i := j) (c := c) (bump_at hu) hc)
      have hur : 0 ≤ u.f1 ∧ u.f1 ≤ 1000 := HT.out u (hpm.mem_iff.1 (List.mem_of_getElem? hu))
      have hml : (os.length + 1) * 12 ≤ 140737488355328 := by
        have := hm'.out.1
        have := HY.out
        omega
      obtain ⟨⟨un, us, ui⟩, ut, uc⟩ := u
      have u0 : wr.cell? ⟨gb, j * 5, none⟩ = some (.int .u8 un) := (E0 0 (by decide)).1
      have u1 : wr.cell? ⟨gb, j * 5 + 1, none⟩ = some (.int .u8 us) := (E0 1 (by decide)).1
      have u2 : wr.cell? ⟨gb, j * 5 + 2, none⟩ = some (.int .u32 ui) := (E0 2 (by decide)).1
      have wt : wrap64 (ut + 1) = ut + 1 := by
        have := hur.1
        have := hur.2
        simp only at *
        unfold wrap64
        omega
      have H4 := Lib.hid S4
      have HU := Lib.hid hu
      have HI := Lib.hid (And.intro hj (And.intro hq (And.intro hjm (And.intro hy ho))))
      have HL := Lib.hid hml
      have hjm' : (j : Int) < (m : Int) := by omega
      have hj0 : (0 : Int) ≤ (j : Int) := by omega
      have hjN : (j : Int) < (N : Int) := by omega
      clear S4 E0 hu hj hq hjm hy hgb hcb hmN hur hml ho hol
      go_wp2_with (at_builtin; go_loud (refine wpList_app1 k33 rfl _ _ 36 33 (.agg #[.int .u8 0, .int .u8 0, .int .u32 0]) 12 rfl Try.underlying36 info33 rfl (by decide) (by decide) (.slice A4 os.length c4) os ⟨un, ⟨us, ui⟩⟩ [.int .u8 un, .int .u8 us, .int .u32 ui] (fun k => (Value.slice A4 os.length c4).ownBlock = some k) rfl rfl (k33_mkM _ _ _ ⟨un, ⟨us, ui⟩⟩) (slc_R (H4.out.get 3 rfl)) HL.out ?_))
      intro A5 c5 w5 R5 m5 ho5
      have S5 := H4.out.app 3 rfl rfl R5 m5 ho5
      have g0' : w5.cell? ⟨g, 0, none⟩ = some (Value.slice (some ⟨gb, 0, none⟩) N cv) := S5.cell 0 rfl 0
      have z0' : w5.cell? ⟨z, 0, none⟩ = some (Value.pointer (some ⟨g, 0, none⟩)) := S5.cell 2 rfl 0
      have u3 : w5.cell? ⟨gb, j * 5 + 3, none⟩ = some (.int .i64 ut) := (S5.elem fl60 1 rfl (i := j) (c := 3) (bump_at HU.out) (by decide)).1
      have f3 : w5.frozen? ⟨gb, j * 5 + 3, none⟩ = false := (S5.elem fl60 1 rfl (i := j) (c := 3) (bump_at HU.out) (by decide)).2
      have S6 := S5.put fl60 1 rfl (i := j) (c := 3) (x := ⟨⟨un, us, ui⟩, ut, uc⟩) (y := told1 ⟨⟨un, us, ui⟩, ut, uc⟩) (v := .int .i64 (ut + 1)) (bump_at HU.out) (by decide) rfl
      rw [bump_succ HU.out] at S6
      have H6 := Lib.hid S6
      clear S5 S6 R5 m5 ho5 g0 z0 u0 u1 u2 H4
      go_wp2_with fail
      go_roundg (m - j)
      case measure => have := HI.out; omega
      case rel =>
        obtain ⟨hj, hq, hjm, hy, ho⟩ := HI.out
        have hm := HM.out
        have hm2 := hm'.out.2.2
        refine ⟨j + 1, ?_, by omega, by omega, ?_⟩
        · have e : wrap64 ((j : Int) + 1) = ((j + 1 : Nat) : Int) := by unfold wrap64; omega
          rw [e]
        · have e := took_succ HU.out
          rw [ho] at e
          rw [← e]
          exact H6.out
    · have hjm' : ¬ (j : Int) < (m : Int) := by omega
      have ej : j = m := by omega
      subst ej
      have hst := Lib.hid ho
      have g0 : wr.cell? ⟨g, 0, none⟩ = some (.slice Av N cv) := S4.cell 0 rfl 0
      have f0 : wr.frozen? ⟨g, 0, none⟩ = false := S4.frozen 0 rfl 0
      have z0 : wr.cell? ⟨z, 0, none⟩ = some (Value.pointer (some ⟨g, 0, none⟩)) := S4.cell 2 rfl 0
      have t0 : wr.drew.cell? ⟨z, 0, none⟩ = some (Value.pointer (some ⟨g, 0, none⟩)) := S4.drew.cell 2 rfl 0
      have t1 : wr.drew.cell? ⟨g, 1, none⟩ = some (.int .i64 p.times) := S4.drew.cell 0 rfl 1
      have apz := S4.ne 1 2 rfl rfl (by decide)
      have apg := S4.ne 0 1 rfl rfl (by decide)
      have HD := Lib.hid (Q60.delete_s fl60 _ zero60 rfl (by decide) 20 #[.pointer (some ⟨z, 0, none⟩)] (fun y => decide (p.times ≤ y.f1)) (bump j ys) (.slice Av N cv) wr.drew (says20 t0 t1 (fun e => apz z e rfl) (fun e => apg g rfl e)) enters20 (S4.drew.get 1 rfl))
      have H4 := Lib.hid S4.drew
      have HI := Lib.hid hol
      clear S4 ho hol hj hq hjm hmN t0 t1 apz apg
      go_upto_region 11 with fail
      generalize hfs : ((bump j ys).filter fun x => !decide (p.times ≤ x.f1)) = fs at HD
      have HFS := Lib.hid hfs
      clear hfs
      go_region_law
        ((go_simp; refine HD.out.mono ?_; rintro e w6 ⟨v6, rfl, hv6, ho6, m6⟩; obtain ⟨A6, c6, rfl⟩ := Kd.R_slice hv6.1; have S6 := H4.out.upd 1 rfl m6 (a' := slc k60 60 (.slice A6 fs.length c6) fs) hv6 (fun k hk => .inl (ho6.symm.trans hk)); have e6 : w6.cell? ⟨g, 0, none⟩ = some (.slice Av N cv) := S6.cell 0 rfl 0; have f6 : w6.frozen? ⟨g, 0, none⟩ = false := S6.frozen 0 rfl 0; have z6 : w6.cell? ⟨z, 0, none⟩ = some (Value.pointer (some ⟨g, 0, none⟩)) := S6.cell 2 rfl 0; have H6 := Lib.hid S6; clear S6 hv6 ho6 m6; simp only []))
      all_goals
        go_wp2_with fail
        go_ret
        have S7 := (H6.out.set 0 rfl 0 (.slice A6 fs.length c6)).drop 2
        have ef := HFS.out
        subst ef
        have eo := hst.out
        subst eo
        have ej : j = takeN p := by
          have := HM.out
          have e := HY.out.2
          rw [e] at this
          unfold takeN
          omega
        subst ej
        obtain ⟨h, hi⟩ := HO.out
        exact ⟨_, ys, _, rfl, hpm, hso, h.exUpd2 i hi (L1 := tP g (takeF p ys)) (.slice A6 _ c6) S7⟩
end Go.Proofs.Ytkfofcgonkkdaaa
