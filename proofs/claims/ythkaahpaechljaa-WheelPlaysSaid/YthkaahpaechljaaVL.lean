import Derived.Test.YthkaahpaechljaaVL0
namespace Go.Proofs.Ythkaahpaechljaa
open Go.RowKit Go.Tat Go.Proofs.YthkaahpaechljaaW.PrintWords PWheelPlays
/-! #### struct type 39 -/
structure S39 where
  f0 : Int
  f1 : Int
  f2 : Int
def z39 : S39 := ⟨(0 : Int), (0 : Int), (0 : Int)⟩
def k39 : Kd S39 := Kd.iso (Kd.pair (Kd.int .i64) (Kd.pair (Kd.int .i64) (Kd.int .u64))) (fun x : S39 => (x.f0, x.f1, x.f2))
theorem k39_open {w : World} {x : S39} {cs : List Value} (h : k39.K w x cs) : cs = [.int .i64 x.f0, .int .i64 x.f1, .int .u64 x.f2] := by
  obtain ⟨_, _, rfl, rfl, ⟨_, _, rfl, rfl, rfl⟩⟩ := h
  exact rfl
theorem k39_openM {w : World} {base : Nat} {ok : Nat → Prop} {x : S39} {cs : List Value} (h : k39.M w base ok x cs) : cs = [.int .i64 x.f0, .int .i64 x.f1, .int .u64 x.f2] := by
  obtain ⟨_, _, rfl, rfl, ⟨_, _, rfl, rfl, rfl⟩⟩ := h
  exact rfl
theorem k39_mk (w : World) (x : S39)  : k39.K w x [.int .i64 x.f0, .int .i64 x.f1, .int .u64 x.f2] := ⟨[.int .i64 x.f0], [.int .i64 x.f1, .int .u64 x.f2], rfl, rfl, ⟨[.int .i64 x.f1], [.int .u64 x.f2], rfl, rfl, rfl⟩⟩
theorem k39_mkM (w : World) (base : Nat) (ok : Nat → Prop) (x : S39)  : k39.M w base ok x [.int .i64 x.f0, .int .i64 x.f1, .int .u64 x.f2] := ⟨[.int .i64 x.f0], [.int .i64 x.f1, .int .u64 x.f2], rfl, rfl, ⟨[.int .i64 x.f1], [.int .u64 x.f2], rfl, rfl, rfl⟩⟩
def rd_T39 (xs : List S39) (i : Int) : S39 := xs.getD i.toNat z39
theorem at_T39 {w : World} {A : Option Addr} {n : Nat} {xs : List S39} (h : Kd.C k39 w A n xs) (i : Int) (h0 : 0 ≤ i) (h1 : i < n) : ∃ ad , A = some ad ∧ w.cell? (ad.add (i.toNat * 3)) = some (.int .i64 (rd_T39 xs i).f0) ∧ w.cell? ⟨(ad.add (i.toNat * 3)).block, (ad.add (i.toNat * 3)).off + 1, none⟩ = some (.int .i64 (rd_T39 xs i).f1) ∧ w.cell? ⟨(ad.add (i.toNat * 3)).block, (ad.add (i.toNat * 3)).off + 2, none⟩ = some (.int .u64 (rd_T39 xs i).f2) := by
  obtain ⟨ad, c, e, _, hK, hc0⟩ := Kd.C_get h z39 i h0 h1
  have hc : ∀ j u, c[j]? = some u → w.cell? (ad.add (i.toNat * 3 + j)) = some u := hc0
  obtain rfl := k39_open hK
  exact ⟨ad, e, hc 0 _ rfl, by rw [← add_field _ _ 1 (by omega)]; exact hc 1 _ rfl, by rw [← add_field _ _ 2 (by omega)]; exact hc 2 _ rfl⟩

instance : Inhabited S39 := ⟨z39⟩
theorem Try.cells39 : Try.prog.cellsOf 39 = k39.sz := by kernel_rfl
def g39 (x : S39) : Prop := (Lit.int .i64 x.f0).wf = true ∧ (Lit.int .i64 x.f1).wf = true ∧ (Lit.int .u64 x.f2).wf = true
theorem opens39 : Opens Try.prog 39 k39 g39 := by
  have h := Opens.struct (P := Try.prog) (t := 39) (d := Kd.pair (Kd.int .i64) (Kd.pair (Kd.int .i64) (Kd.int .u64))) (g := fun p => (Lit.int .i64 p.1).wf = true ∧ (Lit.int .i64 p.2.1).wf = true ∧ (Lit.int .u64 p.2.2).wf = true) Try.underlying39 (by kernel_rfl)
    (OpensF.cons rfl (by kernel_rfl) (Opens.int (by kernel_rfl)) (OpensF.cons (by rfl) (by kernel_rfl) (Opens.int (by kernel_rfl)) (OpensF.one (by rfl) (by kernel_rfl) (Opens.int (by kernel_rfl))))) (fun x : S39 => (x.f0, x.f1, x.f2)) (fun p => ⟨p.1, p.2.1, p.2.2⟩) (fun p => rfl)
  exact .mk fun hx => let ⟨p, hg, hk⟩ := h.out hx; ⟨p, hg, hk⟩
/-- Two slices of new memory, of elements of two types: they are apart. -/
theorem St.ofR2 {α β : Type} {d : Kd α} {d' : Kd β} {e e' : Nat} {w w' : World} {ok ok' : Nat → Prop} {v v' : Value} {xs : List α} {ys : List β} (h1 : d.R e w' w.heap.size ok v xs) (h2 : d'.R e' w' w.heap.size ok' v' ys) (hE : d.E = []) (hE' : d'.E = []) (hne : e ≠ e') (b : Below w.heap.size w w') :
    St (fun _ => False) w w' [slc d e v xs, slc d' e' v' ys] := by
  have S1 := St.ofR h1 hE b
  have S2 := St.ofR h2 hE' b
  refine ⟨⟨fun a ha => ?_, ?_⟩, fun a ha k hk hl => ?_, S1.mod⟩
  · rcases List.mem_cons.1 ha with rfl | ha
    · exact S1.get 0 rfl
    · rw [List.mem_singleton.1 ha]; exact S2.get 0 rfl
  · refine List.pairwise_cons.2 ⟨fun c hc k hk hk' => ?_, List.pairwise_singleton _ _⟩
    rw [List.mem_singleton.1 hc] at hk'
    obtain ⟨_, _, _, q, hq, cs, hb⟩ := (Kd.R_bound h1).1 k hk
    obtain ⟨_, _, _, q', hq', cs', hb'⟩ := (Kd.R_bound h2).1 k hk'
    rw [hE, List.mem_singleton] at hq
    rw [hE', List.mem_singleton] at hq'
    rw [hb] at hb'
    injection hb' with hb'
    injection hb' with _ h3 _
    exact hne (hq.symm.trans (h3.trans hq'))
  · rcases List.mem_cons.1 ha with rfl | ha
    · exact S1.inn _ (by simp) k hk hl
    · rw [List.mem_singleton.1 ha] at hk; exact S2.inn _ (by simp) k hk hl
theorem any_map56 (r : List S48) (id : Int) : ((r.map s56).any fun t => t.f0 == id) = r.any fun t => t.f0 == id := by rw [List.any_map]; rfl
theorem addR_len (r : List S48) (id due : Int) : (addR r id due).length ≤ r.length + 1 := by
  unfold addR
  rw [(insT_perm id due _).length_eq, List.length_append]
  have := List.length_filter_le (not48 id) r
  simp
  omega
set_option maxRecDepth 100000 in
set_option maxHeartbeats 8000000 in
theorem plays_c (ops : List S39) (A0 : Option Addr) (cap0 : Nat) (W : World) (hC0 : k39.C W A0 ops.length ops) (hc0 : ops.length ≤ cap0) (hg0 : ∀ x ∈ ops, g39 x) :
    Calls Try.prog 5 #[.slice A0 ops.length cap0] W fun e w' => e = .returned (.bool true) ∧ Below W.heap.size W w' := by
  have HC := Lib.hid (And.intro hC0 hg0)
  have h0 := Lib.hid (St.nil (fun _ => False) W)
  clear hC0 hc0 hg0
  go_enter Try.func5, Try.ntmps5
  go_wp2_with fail
  refine (new_st h0.out).mono ?_
  rintro e w1 ⟨g, S1, rfl, H1⟩
  have H1 := Lib.hid ((show St (fun _ => False) W w1 [wO g S1 []] from H1).nils k48 48)
  clear h0
  go_upto_block 0 with fail
  go_cut [] (fun wx => Below W.heap.size W wx)
  case first =>
    go_wp2_with fail
    go_loopg [4, 14] (ops.length + 1) (fun n v4 v14 wx => ∃ (j : Nat) (r : List S48) (S1 : Nat → Prop), v14 = .int .i64 j ∧ j ≤ ops.length ∧ ops.length - j < n ∧ j ≤ 201 ∧ r.length ≤ j ∧ RowI r ∧ St (fun _ => False) W wx [wO g S1 (r.map s56), slc k48 48 v4 r])
    case atStart => exact ⟨0, [], _, rfl, by omega, by omega, by omega, by simp, ⟨List.Pairwise.nil, by simp, by simp⟩, H1.out⟩
    case round =>
      clear H1
      obtain ⟨j, r, S1, rfl, hj, hjm, hj1, hrl, hri, S3⟩ := hrel
      have HR := Lib.hid hri
      clear hri
      by_cases hjl : j < ops.length
      · have hjl' : (j : Int) < (ops.length : Int) := by omega
        have hj0 : (0 : Int) ≤ (j : Int) := by omega
        obtain ⟨x, hx⟩ : ∃ x, ops[j]? = some x := ⟨_, List.getElem?_eq_getElem hjl⟩
        have hgx := HC.out.2 x (List.mem_of_getElem? hx)
        obtain ⟨ad, b, o, cs, rfl, had, hb, hK, hcs⟩ := C_at HC.out.1 hx (by decide)
        obtain ⟨xk, xi, xt⟩ := x
        have hxt := u64_wf hgx.2.2
        obtain rfl := k39_open hK
        dsimp only at hcs hxt
        have c0 := (S3.base.cell (p := ⟨b, o, none⟩) hb).trans (hcs 0 _ rfl)
        have c1 := (S3.base.cell (p := ⟨b, o + 1, none⟩) hb).trans (hcs 1 _ rfl)
        have c2 := (S3.base.cell (p := ⟨b, o + 2, none⟩) hb).trans (hcs 2 _ rfl)
        have had' : ad.add (j * 3) = ⟨b, o, none⟩ := had
        have HI := Lib.hid (And.intro hj (And.intro hjm (And.intro hj1 (And.intro hrl hxt))))
        obtain ⟨A4, c4, h4⟩ := Kd.R_slice (S3.get 1 rfl).1
        subst h4
        have H3 := Lib.hid S3
        clear S3 hK hcs had hx hgx hxt hj hjm hj1 hrl
        go_upto_region 6 with fail
        have S5 := H3.out.new' #[.int .i64 xk, .int .i64 xi, .int .u64 xt] 39 wr.heap.size rfl
        obtain ⟨z, hz⟩ : ∃ z, wr.heap.size = z := ⟨_, rfl⟩
        rw [hz] at S5 ⊢
        clear hz
        generalize World.alloc wr _ = w5 at *
        have d0 : w5.cell? ⟨z, 0, none⟩ = some (.int .i64 xk) := S5.cell 2 rfl 0
        have d1 : w5.cell? ⟨z, 1, none⟩ = some (.int .i64 xi) := S5.cell 2 rfl 1
        have d2 : w5.cell? ⟨z, 2, none⟩ = some (.int .u64 xt) := S5.cell 2 rfl 2
        have H5 := Lib.hid S5
        clear S5 H3 c0 c1 c2 had'
        by_cases hb1 : (200 : Int) < (j : Int)
        · have HB := Lib.hid H5.out.base
          go_wp2_with fail
          go_meet
          exact HB.out
        · go_upto_block 2 with fail
          go_cut [4] (fun v4 wx => ∃ (r' : List S48) (S' : Nat → Prop), r'.length ≤ j + 1 ∧ RowI r' ∧ St (fun _ => False) W wx [wO g S' (r'.map s56), slc k48 48 v4 r'])
          case first =>
            by_cases hk0 : xk = 0
            · subst hk0
              go_wp2_with fail
              refine (add_st H5.out 0 rfl xi xt HI.out.2.2.2.2.1 HI.out.2.2.2.2.2 (by rw [List.length_map]; have := HI.out; omega)).mono ?_
              rintro e w6 ⟨rfl, S2, S6⟩
              have H6 := Lib.hid (show St (fun _ => False) W w6 [wO g S2 (addM (r.map s56) xi xt), slc k48 48 (.slice A4 r.length c4) r, blk z #[.int .i64 0, .int .i64 xi, .int .u64 xt] 39] from S6)
              clear S6 H5 d0 d1 d2
              have d1 : w6.cell? ⟨z, 1, none⟩ = some (.int .i64 xi) := H6.out.cell 2 rfl 1
              have d2 : w6.cell? ⟨z, 2, none⟩ = some (.int .u64 xt) := H6.out.cell 2 rfl 2
              go_wp2_with fail
              have r4 := Kd.R_reads' (H6.out.get 1 rfl).1
              refine (tattlerref12_Add.calls (r.length + 1) A4 c4 r xi xt (addR r xi xt) w6 r4.2.2 r4.2.1 (add_is r xi xt (by have := HI.out; omega))).mono ?_
              clear r4
              rintro e w7 ⟨v7, rfl, hR, hB⟩
              have S7 := ((H6.out.adds (St.ofR hR rfl hB)).drop 2).drop 1
              obtain ⟨S8, h8⟩ := St.row S7 0 rfl (addR_perm r xi xt)
              have H8 := Lib.hid (show St (fun _ => False) W w7 [wO g S8 ((addR r xi xt).map s56), slc k48 48 v7 (addR r xi xt)] from h8)
              have HA := Lib.hid (And.intro (Nat.le_trans (addR_len r xi xt) (Nat.succ_le_succ HI.out.2.2.2.1)) (HR.out.add xi xt HI.out.2.2.2.2.1 HI.out.2.2.2.2.2))
              clear h8 S7 hR hB H6 d1 d2
              go_wp2_with fail
              go_meet
              exact ⟨addR r xi xt, S8, HA.out.1, HA.out.2, H8.out⟩
            · by_cases hk1 : xk = 1
              · subst hk1
                go_wp2_with fail
                have r4 := Kd.R_reads' (H5.out.get 1 rfl).1
                refine (tattlerref12_Without.calls (r.length + 1) A4 c4 r xi (r.filter (not48 xi)) (r.any fun t => t.f0 == xi) w5 r4.2.2 r4.2.1 (without_is r xi (by have := HI.out; omega) _ (by omega))).mono ?_
                clear r4
                rintro e w6 ⟨v6, rfl, hR, hB⟩
                obtain ⟨bb, hbb⟩ : ∃ bb, (r.any fun t => t.f0 == xi) = bb := ⟨_, rfl⟩
                rw [hbb]
                have H6 := Lib.hid (show St (fun _ => False) W w6 [wO g S1 (r.map s56), slc k48 48 (.slice A4 r.length c4) r, blk z #[.int .i64 1, .int .i64 xi, .int .u64 xt] 39, slc k48 48 v6 (r.filter (not48 xi))] from H5.out.adds (St.ofR hR rfl hB))
                have HB := Lib.hid hbb
                clear hbb hR hB H5 d0 d1 d2
                have d1 : w6.cell? ⟨z, 1, none⟩ = some (.int .i64 xi) := H6.out.cell 2 rfl 1
                go_wp2_with fail
                refine (drop_st H6.out 0 rfl xi).mono ?_
                rintro e w7 ⟨rfl, S7, S8⟩
                rw [any_map56, HB.out]
                rw [filter_map56 r (not48 xi) (notId xi) (fun t => rfl)] at S8
                have H8 := Lib.hid (show St (fun _ => False) W w7 [wO g S7 ((r.filter (not48 xi)).map s56), slc k48 48 v6 (r.filter (not48 xi))] from (show St (fun _ => False) W w7 [wO g S7 ((r.filter (not48 xi)).map s56), slc k48 48 (.slice A4 r.length c4) r, blk z #[.int .i64 1, .int .i64 xi, .int .u64 xt] 39, slc k48 48 v6 (r.filter (not48 xi))] from S8).sub (by simp))
                have HA := Lib.hid (And.intro (Nat.le_trans (List.length_filter_le (not48 xi) r) (Nat.le_succ_of_le HI.out.2.2.2.1)) (HR.out.filter (not48 xi)))
                clear S8 H6 d1
                go_wp2_with fail
                go_meet
                exact ⟨_, S7, HA.out.1, HA.out.2, H8.out⟩
              · go_wp2_with fail
                have r4 := Kd.R_reads' (H5.out.get 1 rfl).1
                refine (tattlerref12_Due.calls (r.length + 1) A4 c4 r xt _ _ w5 r4.2.2 r4.2.1 (rdue_is r xt (by have := HI.out; omega))).mono ?_
                clear r4
                rintro e w6 ⟨v6, v7, rfl, hR, hR2, hB⟩
                obtain ⟨i1, hi1⟩ : ∃ i1, (r.filter (le48 xt)).map S48.f0 = i1 := ⟨_, rfl⟩
                rw [hi1] at hR
                have hil : i1.length ≤ r.length := by rw [← hi1, List.length_map]; exact List.length_filter_le _ _
                have H6 := Lib.hid (show St (fun _ => False) W w6 [wO g S1 (r.map s56), slc k48 48 (.slice A4 r.length c4) r, blk z #[.int .i64 xk, .int .i64 xi, .int .u64 xt] 39, slc (Kd.int .i64) 3 v6 i1, slc k48 48 v7 (r.filter fun t => !le48 xt t)] from H5.out.adds (St.ofR2 hR hR2 rfl rfl (by decide) hB))
                obtain ⟨A6, c6, rfl⟩ := Kd.R_slice (H6.out.get 3 rfl).1
                have HX := Lib.hid (And.intro hi1 hil)
                clear hi1 hil hR hR2 hB H5 d0 d1 d2
                have d2 : w6.cell? ⟨z, 2, none⟩ = some (.int .u64 xt) := H6.out.cell 2 rfl 2
                go_wp2_with fail
                refine (due_st H6.out 0 rfl xt (by rw [List.length_map]; have := HI.out; omega)).mono ?_
                rintro e w8 ⟨v8, ys, S8, rfl, hp, hs, S9⟩
                rw [HR.out.due hp hs, HX.out.1, filter_map56 r (fun t => !le48 xt t) (fun t => !dueB xt t) (fun t => rfl)] at S9
                have H9 := Lib.hid (show St (fun _ => False) W w8 [wO g S8 ((r.filter fun t => !le48 xt t).map s56), slc k48 48 (.slice A4 r.length c4) r, blk z #[.int .i64 xk, .int .i64 xi, .int .u64 xt] 39, slc (Kd.int .i64) 3 (.slice A6 i1.length c6) i1, slc k48 48 v7 (r.filter fun t => !le48 xt t), slc (Kd.int .i64) 3 v8 i1] from S9)
                obtain ⟨A8, c8, rfl⟩ := Kd.R_slice (H9.out.get 5 rfl).1
                clear S9 hp hs H6 d2
                go_wp2_with fail
                have r1 := Kd.R_reads' (H9.out.get 5 rfl).1
                have r2 := Kd.R_reads' (H9.out.get 3 rfl).1
                refine (same_c i1 (by have := HX.out.2; have := HI.out; omega) A8 A6 c8 c6 w8 r1.2.2 r1.2.1 r2.2.2 r2.2.1).mono ?_
                clear r1 r2
                rintro e w9 ⟨rfl, b9⟩
                have H10 := Lib.hid ((((H9.out.below b9).drop 5).drop 3).sub (M := [wO g S8 ((r.filter fun t => !le48 xt t).map s56), slc k48 48 v7 (r.filter fun t => !le48 xt t)]) (by simp))
                have HA := Lib.hid (And.intro (Nat.le_trans (List.length_filter_le (fun t => !le48 xt t) r) (Nat.le_succ_of_le HI.out.2.2.2.1)) (HR.out.filter (fun t => !le48 xt t)))
                clear b9 H9
                go_wp2_with fail
                go_meet
                exact ⟨_, S8, HA.out.1, HA.out.2, H10.out⟩
          case rest =>
            clear H5 d0 d1 d2
            obtain ⟨r', S', hrl', hri', S6⟩ := hcut
            obtain ⟨A5, c5, h5⟩ := Kd.R_slice (S6.get 1 rfl).1
            subst h5
            have HRI := Lib.hid hri'
            have hl' : (r'.map s56).length = r'.length := List.length_map _
            have H6 := Lib.hid S6
            have HL := Lib.hid hrl'
            have hnx := next_c H6.out 0 rfl (by rw [List.length_map]; have := HL.out; have := HI.out; omega)
            rw [hl'] at hnx
            have HN := Lib.hid hnx
            clear S6 hri' hrl' hnx hl'
            go_wp2_with fail
            refine HN.out.mono ?_
            rintro e w7 ⟨rfl, b7⟩
            have S7 := H6.out.below b7
            have hln := len_c S7 0 rfl
            rw [List.length_map] at hln
            have HLN := Lib.hid hln
            have H7 := Lib.hid S7
            clear b7 S7 hln HN H6
            cases r' with
            | nil =>
              go_wp2_with fail
              refine HLN.out.mono ?_
              rintro e w8 ⟨rfl, rfl⟩
              clear HLN
              go_wp2_with fail
              go_roundg (ops.length - j)
              case measure => have := HI.out; omega
              case rel =>
                have := HI.out
                exact ⟨j + 1, [], S', by go_num, by omega, by omega, by omega, by simp, HRI.out, H7.out⟩
            | cons x r'' =>
              have hnx := HRI.out.next
              obtain ⟨gM, cM', hv, _, hcM⟩ := slc_form (H7.out.get 1 rfl) (by simp)
              injection hv with hv1 hvl hv2
              subst hv1; subst hv2
              have m0 : ∀ w', w' = w7 → w'.cell? ⟨gM, 1, none⟩ = some (.int .u64 x.f1) := fun w' e => by rw [e]; exact (H7.out.elem fl48 1 rfl (i := 0) (c := 1) rfl (by decide)).1
              have m1 := m0 w7 rfl
              clear m0 hvl hcM
              rw [hnx]
              obtain ⟨nx, hx1⟩ : ∃ nx, x.f1 = nx := ⟨_, rfl⟩
              rw [hx1] at m1 ⊢
              obtain ⟨nl, hnl⟩ : ∃ nl, (x :: r'').length = nl := ⟨_, rfl⟩
              have hn0 : (0 : Int) < (nl : Int) := by rw [← hnl, List.length_cons]; omega
              have hn1 : nl ≠ 0 := by omega
              have HLN' := Lib.hid (hnl ▸ HLN.out)
              rw [hnl]
              have HE := Lib.hid hnl
              clear hnl hx1 hnx HLN
              go_wp2_with fail
              refine HLN'.out.mono ?_
              rintro e w8 ⟨rfl, rfl⟩
              clear HLN'
              go_wp2_with fail
              go_roundg (ops.length - j)
              case measure => have := HI.out; omega
              case rel =>
                have := HI.out
                have := HL.out
                exact ⟨j + 1, x :: r'', S', by go_num, by omega, by omega, by omega, by omega, HRI.out, by have h := H7.out; rw [HE.out] at h; exact h⟩
      · have hjl' : ¬ ((j : Int) < (ops.length : Int)) := by omega
        have HB := Lib.hid S3.base
        clear S3
        go_wp2_with fail
        go_meet
        exact HB.out
  case rest =>
    clear H1
    have HB := Lib.hid hcut
    clear hcut
    go_wp2_with fail
    refine (fixed_c _).mono ?_
    rintro e w9 ⟨rfl, b9⟩
    have HB9 := Lib.hid (HB.out.trans (b9.mono HB.out.size))
    clear b9
    go_wp2_with fail
    go_ret
    exact ⟨rfl, HB9.out⟩
end Go.Proofs.Ythkaahpaechljaa
