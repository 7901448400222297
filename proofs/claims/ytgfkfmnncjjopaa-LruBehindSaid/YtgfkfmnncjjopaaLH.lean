import Derived.Test.YtgfkfmnncjjopaaLG
namespace Go.Proofs.Ytgfkfmnncjjopaa
open Go.RowKit Go.Tat Go.Proofs.YtgfkfmnncjjopaaW.PrintWords
theorem addr_plain {w : World} {a : Addr} {v : Value} (h : w.cell? a = some v) : ∃ b o, a = ⟨b, o, none⟩ := by
  obtain ⟨b, o, s⟩ := a
  cases s with
  | none => exact ⟨b, o, rfl⟩
  | some s => unfold World.cell? at h; dsimp only at h; split at h <;> simp at h
set_option maxHeartbeats 2000000 in
theorem plays_no (n : Int) (v : Value) (w : World) (h : ¬ (1 ≤ n ∧ n ≤ 1024)) :
    Calls Try.prog 3 #[.int .i64 n, v] w fun e w' => e = .returned (.bool true) ∧ Below w.heap.size w w' := by
  have HN := Lib.hid (new_no n w h)
  have HF := Lib.hid fixed_true
  by_cases h1 : 1 ≤ n
  · have h2 : ¬ n ≤ 1024 := fun h' => h ⟨h1, h'⟩
    clear h
    go_enter Try.func3, Try.ntmps3
    go_wp2_with (first | (go_at_call 7; refine HN.out.mono ?_; rintro e w1 ⟨rfl, rfl⟩) | (go_at_call 8; refine (HF.out _).mono ?_; rintro e w2 ⟨rfl, B⟩))
    go_ret
    exact ⟨rfl, B⟩
  · clear h
    go_enter Try.func3, Try.ntmps3
    go_wp2_with (first | (go_at_call 7; refine HN.out.mono ?_; rintro e w1 ⟨rfl, rfl⟩) | (go_at_call 8; refine (HF.out _).mono ?_; rintro e w2 ⟨rfl, B⟩))
    go_ret
    exact ⟨rfl, B⟩
set_option maxRecDepth 100000 in
set_option maxHeartbeats 4000000 in
theorem plays_yes (n : Nat) (ops : List S30) (A : Option Addr) (c : Nat) (w : World) (hC : k30.C w A ops.length ops) (h1 : 1 ≤ n) (h2 : n ≤ 1024) :
    Calls Try.prog 3 #[.int .i64 n, .slice A ops.length c] w fun e w' => e = .returned (.bool true) ∧ Below w.heap.size w w' := by
  have HC := Lib.hid hC
  have hmax := Kd.C_max hC
  clear hC
  have hn1 : (1 : Int) ≤ (n : Int) := by omega
  have hn2 : (n : Int) ≤ 1024 := by omega
  go_enter Try.func3, Try.ntmps3
  go_wp2_with (first | (go_at_call 7; refine (lru_new n _ h1 h2).mono ?_; rintro e w1 ⟨g, b, rfl, hg, hb, B1, L1⟩) | (go_at_call 8; refine (fixed_true _).mono ?_; rintro e w2 ⟨rfl, B2⟩))
  have L2 := L1.below B2
  have B2' := B1.trans (B2.mono B1.size)
  have hbw := L1.lt.2
  clear L1 B1 B2
  go_loopg [7, 45] (ops.length + 1) (fun k vm i W => ∃ (j : Nat) (o : List Nat), j + k = ops.length + 1 ∧ j ≤ ops.length ∧ i = .int .i64 j ∧ Lru W g b n o ∧ (Kd.int .i64).R 3 W w.heap.size (fun k => k ≠ b) vm (ofN o) ∧ Below w.heap.size w W)
  case atStart => exact ⟨0, [], by omega, by omega, rfl, L2, Kd.R_nil _ _ _ _ _, B2'⟩
  case round =>
    clear L2 B2' hbw
    obtain ⟨j, o, hjk, hj, rfl, L, R, B⟩ := hrel
    have HJ := Lib.hid hjk
    clear hjk
    by_cases hjl : j < ops.length
    · have hjl' : (j : Int) < (ops.length : Int) := by omega
      obtain ⟨ad, rfl, cx0, cx1⟩ := at_T30 HC.out (j : Int) (by omega) hjl'
      generalize hx : rd_T30 ops (j : Int) = x at *
      clear hx
      replace cx0 := (B.cell (World.block_lt_of_cell? w _ cx0)).trans cx0
      replace cx1 := (B.cell (World.block_lt_of_cell? w _ cx1)).trans cx1
      obtain ⟨x0, x1⟩ := x
      dsimp only at cx0 cx1
      rw [Int.toNat_natCast] at cx0 cx1
      obtain ⟨pb, po, had⟩ := addr_plain cx0
      rw [had] at cx0 cx1
      dsimp only at cx1
      obtain ⟨vA, vc, rfl, hvc, vC⟩ := Kd.R_reads R
      have HV := Lib.hid (And.intro hvc vC)
      have hnd := L.nd
      have HL := Lib.hid (And.intro (And.intro L R) (And.intro B hnd))
      clear hvc vC L R B hnd
      by_cases h300 : 300 < j
      · have h300' : 300 < (j : Int) := by omega
        go_wp2_with fail
        obtain ⟨⟨L, R⟩, B, hnd⟩ := HL.out
        obtain ⟨hvc, vC⟩ := HV.out
        generalize hwb : wr.alloc _ = wb
        have mb : Below wr.heap.size wr wb := hwb ▸ (Below.refl _ _).alloc (Nat.le_refl _) _
        have bx : wb.cell? ⟨wr.heap.size, 1, none⟩ = some (.int .i64 x1) := by rw [← hwb]; exact World.cell?_alloc_new _ _ _ _
        have hsz := B.size
        have hbx : b < wr.heap.size := L.lt.2
        have bxl : wr.heap.size < wb.heap.size := World.block_lt_of_cell? _ _ bx
        clear hwb cx0 cx1 had
        replace L := L.below mb
        replace R := Kd.R_below R mb
        replace vC := Kd.C_below vC mb
        replace B := B.trans (mb.mono B.size)
        have hbl := L.lt.2
        have hol : (ofN o).length ≤ 1024 := by have := hnd.2.2; simp [ofN]; omega
        clear HV HL
        have bxx : ∀ W, Below wb.heap.size wb W → W.cell? ⟨wr.heap.size, 1, none⟩ = some (.int .i64 x1) := fun W h => (h.cell bxl).trans bx
        have BX := Lib.hid bxx
        clear bxx mb
        generalize wr.heap.size = x at *
        have HR := Lib.hid (And.intro hvc vC)
        refine (lru_order L h2).mono ?_
        rintro e w4 ⟨v4, rfl, R4, b4⟩
        obtain ⟨A4, c4, rfl, hc4, C4⟩ := Kd.R_reads R4
        have H4 := Lib.hid (And.intro hc4 C4)
        clear R4 hc4 C4 hvc vC
        go_wp2_with fail
        refine (same_calls (ofN o) (ofN o) A4 vA c4 vc _ H4.out.2 H4.out.1 (Kd.C_below HR.out.2 b4) HR.out.1 rfl).mono ?_
        rintro e w5 ⟨rfl, b5⟩
        have B5 := (B.trans (b4.mono B.size)).trans (b5.mono (Nat.le_trans B.size b4.size))
        go_wp2
        go_ret
        exact ⟨rfl, B5⟩
      · have h300' : ¬ 300 < (j : Int) := by omega
        cases x0 with
        | true =>
          go_wp2_with fail
          obtain ⟨⟨L, R⟩, B, hnd⟩ := HL.out
          obtain ⟨hvc, vC⟩ := HV.out
          generalize hwb : wr.alloc _ = wb
          have mb : Below wr.heap.size wr wb := hwb ▸ (Below.refl _ _).alloc (Nat.le_refl _) _
          have bx : wb.cell? ⟨wr.heap.size, 1, none⟩ = some (.int .i64 x1) := by rw [← hwb]; exact World.cell?_alloc_new _ _ _ _
          have hsz := B.size
          have hbx : b < wr.heap.size := L.lt.2
          have bxl : wr.heap.size < wb.heap.size := World.block_lt_of_cell? _ _ bx
          clear hwb cx0 cx1 had
          replace L := L.below mb
          replace R := Kd.R_below R mb
          replace vC := Kd.C_below vC mb
          replace B := B.trans (mb.mono B.size)
          have hbl := L.lt.2
          have hol : (ofN o).length ≤ 1024 := by have := hnd.2.2; simp [ofN]; omega
          clear HV HL
          have bxx : ∀ W, Below wb.heap.size wb W → W.cell? ⟨wr.heap.size, 1, none⟩ = some (.int .i64 x1) := fun W h => (h.cell bxl).trans bx
          have BX := Lib.hid bxx
          clear bxx mb
          generalize wr.heap.size = x at *
          refine (PLruPlays.tattlerref11_Without.calls _ vA vc (ofN o) x1 _ _ wb vC hvc (without_f (ofN o) x1 (by omega))).mono ?_
          rintro e w3 ⟨v3, rfl, R3, b3⟩
          rw [ofN_drop] at R3
          have L3 := L.below b3
          have B3 := B.trans (b3.mono B.size)
          have R3' : (Kd.int .i64).R 3 w3 w.heap.size (fun k => k ≠ b) v3 (ofN (dropO o x1)) := Kd.R_lower (Kd.R_mono (Kd.R_bound R3) (fun k hk => by have := hk.2.1; omega)) B.size
          have bx3 := BX.out w3 b3
          have HD := Lib.hid (lru_drop x1 L3)
          have H3 := Lib.hid (And.intro R3' (And.intro B3 b3))
          clear R3 R3' B3 L3 L B vC hvc bx b3
          generalize (ofN o).contains x1 = tt at *
          go_wp2_with fail
          refine HD.out.mono ?_
          rintro e w4 ⟨rfl, m4, L4⟩
          have R4 := Kd.R_step H3.out.1 (fun k hk hl => m4.block k hl hk)
          have B4 : Below w.heap.size w w4 := H3.out.2.1.trans (m4.below H3.out.2.1.size (by intro k hk h; omega))
          clear HD H3 m4 bx3
          go_wp2_with fail
          rcases List.eq_nil_or_concat (dropO o x1) with he | ⟨oa, ox, he⟩
          · rw [he] at L4 R4
            have HE := Lib.hid he
            clear he
            refine (lru_oldest_nil L4).mono ?_
            rintro e w5 ⟨rfl, b5⟩
            have L5 := L4.below b5
            have R5 := Kd.R_below R4 b5
            have B5 := B4.trans (b5.mono B4.size)
            obtain ⟨A5, c5, rfl, hc5, C5⟩ := Kd.R_reads R5
            have H5 := Lib.hid (And.intro (And.intro L5 R5) B5)
            clear L4 R4 B4 b5 L5 R5 B5 hc5 C5
            simp only [ofN, List.map_nil, List.length_nil]
            go_wp2
            go_roundg (ops.length - j)
            case measure => have := HJ.out; omega
            case rel => exact ⟨j + 1, [], by omega, by omega, by go_num, H5.out.1.1, H5.out.1.2, H5.out.2⟩
          · rw [List.concat_eq_append] at he
            rw [he] at L4 R4
            have HE := Lib.hid he
            clear he
            have hol5 : oa.length ≤ 2000 := by have := L4.nd.2.2; simp at this; omega
            refine (lru_oldest_snoc L4).mono ?_
            rintro e w5 ⟨rfl, b5⟩
            have L5 := L4.below b5
            have R5 := Kd.R_below R4 b5
            have B5 := B4.trans (b5.mono B4.size)
            obtain ⟨A5, c5, rfl, hc5, C5⟩ := Kd.R_reads R5
            have hln : (ofN (oa ++ [ox])).length = oa.length + 1 := by simp [ofN]
            obtain ⟨ad5, rfl, cc5⟩ := Kd.at_int C5 (oa.length : Int) (by omega) (by omega)
            have hrd5 : rd (ofN (oa ++ [ox])) (oa.length : Int) = (ox : Int) := by simp [rd, ofN, List.getD]
            rw [hrd5, Int.toNat_natCast] at cc5
            obtain ⟨pb5, po5, had5⟩ := addr_plain cc5
            rw [had5] at cc5
            have H5 := Lib.hid (And.intro (And.intro L5 R5) B5)
            clear L4 R4 B4 b5 L5 R5 B5 hc5 C5 hrd5
            rw [hln] at *
            have hgt : (0 : Int) < ((oa.length + 1 : Nat) : Int) := by omega
            generalize oa.length = ol at *
            go_wp2
            go_roundg (ops.length - j)
            case measure => have := HJ.out; omega
            case rel => exact ⟨j + 1, oa ++ [ox], by omega, by omega, by go_num, H5.out.1.1, H5.out.1.2, H5.out.2⟩
        | false =>
          by_cases hx0 : 0 ≤ x1 ∧ x1 < (n : Int)
          · have hx1 := hx0.1
            have hx2 := hx0.2
            go_wp2_with fail
            obtain ⟨⟨L, R⟩, B, hnd⟩ := HL.out
            obtain ⟨hvc, vC⟩ := HV.out
            generalize hwb : wr.alloc _ = wb
            have mb : Below wr.heap.size wr wb := hwb ▸ (Below.refl _ _).alloc (Nat.le_refl _) _
            have bx : wb.cell? ⟨wr.heap.size, 1, none⟩ = some (.int .i64 x1) := by rw [← hwb]; exact World.cell?_alloc_new _ _ _ _
            have hsz := B.size
            have hbx : b < wr.heap.size := L.lt.2
            have bxl : wr.heap.size < wb.heap.size := World.block_lt_of_cell? _ _ bx
            clear hwb cx0 cx1 had
            replace L := L.below mb
            replace R := Kd.R_below R mb
            replace vC := Kd.C_below vC mb
            replace B := B.trans (mb.mono B.size)
            have hbl := L.lt.2
            have hol : (ofN o).length ≤ 1024 := by have := hnd.2.2; simp [ofN]; omega
            clear HV HL
            have bxx : ∀ W, Below wb.heap.size wb W → W.cell? ⟨wr.heap.size, 1, none⟩ = some (.int .i64 x1) := fun W h => (h.cell bxl).trans bx
            have BX := Lib.hid bxx
            clear bxx mb
            generalize wr.heap.size = x at *
            have HU := Lib.hid (lru_use x1 hx0 L)
            have H3 := Lib.hid (And.intro R (And.intro B hol))
            clear L R B vC hvc hol hx0
            refine HU.out.mono ?_
            rintro e w3 ⟨rfl, m3, L3⟩
            have R3 := Kd.R_step H3.out.1 (fun k hk hl => m3.block k hl hk)
            have B3 := H3.out.2.1.trans (m3.below H3.out.2.1.size (by intro k hk h; omega))
            have bx3 : w3.cell? ⟨x, 1, none⟩ = some (.int .i64 x1) := (World.cell?_of_block (a := ⟨x, 1, none⟩) (m3.block x bxl (by omega))).trans bx
            obtain ⟨_, hvc3, vC3⟩ := Kd.R_reads' R3
            have HW := Lib.hid (And.intro vC3 (And.intro hvc3 (And.intro L3 B3)))
            have hb3 := L3.lt.2
            clear HU m3 L3 R3 B3 vC3 hvc3 bx
            go_wp2_with fail
            refine (PLruPlays.tattlerref11_Use.calls _ vA vc (ofN o) x1 _ w3 HW.out.1 HW.out.2.1 (use_f (ofN o) x1 (by have := H3.out.2.2; omega))).mono ?_
            rintro e w4 ⟨v4, rfl, R4', b4⟩
            have L4 := HW.out.2.2.1.below b4
            have B4 := HW.out.2.2.2.trans (b4.mono HW.out.2.2.2.size)
            have e4 : x1 :: (ofN o).filter (fun y => y != x1) = ofN (x1.toNat :: dropO o x1) := by
              rw [ofN_drop]; unfold ofN; rw [List.map_cons, Int.toNat_of_nonneg hx1]
            rw [e4] at R4'
            have R4 : (Kd.int .i64).R 3 w4 w.heap.size (fun k => k ≠ b) v4 (ofN (x1.toNat :: dropO o x1)) := Kd.R_lower (Kd.R_mono (Kd.R_bound R4') (fun k hk => by have := hk.2.1; omega)) HW.out.2.2.2.size
            clear H3 HW R4' b4 e4
            go_wp2_with fail
            rcases List.eq_nil_or_concat (x1.toNat :: dropO o x1) with he | ⟨oa, ox, he⟩
            · rw [he] at L4 R4
              have HE := Lib.hid he
              clear he
              refine (lru_oldest_nil L4).mono ?_
              rintro e w5 ⟨rfl, b5⟩
              have L5 := L4.below b5
              have R5 := Kd.R_below R4 b5
              have B5 := B4.trans (b5.mono B4.size)
              obtain ⟨A5, c5, rfl, hc5, C5⟩ := Kd.R_reads R5
              have H5 := Lib.hid (And.intro (And.intro L5 R5) B5)
              clear L4 R4 B4 b5 L5 R5 B5 hc5 C5
              simp only [ofN, List.map_nil, List.length_nil]
              go_wp2
              go_roundg (ops.length - j)
              case measure => have := HJ.out; omega
              case rel => exact ⟨j + 1, [], by omega, by omega, by go_num, H5.out.1.1, H5.out.1.2, H5.out.2⟩
            · rw [List.concat_eq_append] at he
              rw [he] at L4 R4
              have HE := Lib.hid he
              clear he
              have hol5 : oa.length ≤ 2000 := by have := L4.nd.2.2; simp at this; omega
              refine (lru_oldest_snoc L4).mono ?_
              rintro e w5 ⟨rfl, b5⟩
              have L5 := L4.below b5
              have R5 := Kd.R_below R4 b5
              have B5 := B4.trans (b5.mono B4.size)
              obtain ⟨A5, c5, rfl, hc5, C5⟩ := Kd.R_reads R5
              have hln : (ofN (oa ++ [ox])).length = oa.length + 1 := by simp [ofN]
              obtain ⟨ad5, rfl, cc5⟩ := Kd.at_int C5 (oa.length : Int) (by omega) (by omega)
              have hrd5 : rd (ofN (oa ++ [ox])) (oa.length : Int) = (ox : Int) := by simp [rd, ofN, List.getD]
              rw [hrd5, Int.toNat_natCast] at cc5
              obtain ⟨pb5, po5, had5⟩ := addr_plain cc5
              rw [had5] at cc5
              have H5 := Lib.hid (And.intro (And.intro L5 R5) B5)
              clear L4 R4 B4 b5 L5 R5 B5 hc5 C5 hrd5
              rw [hln] at *
              have hgt : (0 : Int) < ((oa.length + 1 : Nat) : Int) := by omega
              generalize oa.length = ol at *
              go_wp2
              go_roundg (ops.length - j)
              case measure => have := HJ.out; omega
              case rel => exact ⟨j + 1, oa ++ [ox], by omega, by omega, by go_num, H5.out.1.1, H5.out.1.2, H5.out.2⟩
          · by_cases hx1 : 0 ≤ x1
            · have hx2 : ¬ x1 < (n : Int) := fun h => hx0 ⟨hx1, h⟩
              go_wp2_with fail
              obtain ⟨⟨L, R⟩, B, hnd⟩ := HL.out
              obtain ⟨hvc, vC⟩ := HV.out
              generalize hwb : wr.alloc _ = wb
              have mb : Below wr.heap.size wr wb := hwb ▸ (Below.refl _ _).alloc (Nat.le_refl _) _
              have bx : wb.cell? ⟨wr.heap.size, 1, none⟩ = some (.int .i64 x1) := by rw [← hwb]; exact World.cell?_alloc_new _ _ _ _
              have hsz := B.size
              have hbx : b < wr.heap.size := L.lt.2
              have bxl : wr.heap.size < wb.heap.size := World.block_lt_of_cell? _ _ bx
              clear hwb cx0 cx1 had
              replace L := L.below mb
              replace R := Kd.R_below R mb
              replace vC := Kd.C_below vC mb
              replace B := B.trans (mb.mono B.size)
              have hbl := L.lt.2
              have hol : (ofN o).length ≤ 1024 := by have := hnd.2.2; simp [ofN]; omega
              clear HV HL
              have bxx : ∀ W, Below wb.heap.size wb W → W.cell? ⟨wr.heap.size, 1, none⟩ = some (.int .i64 x1) := fun W h => (h.cell bxl).trans bx
              have BX := Lib.hid bxx
              clear bxx mb
              generalize wr.heap.size = x at *
              generalize Value.slice vA (ofN o).length vc = v4 at R ⊢
              refine (lru_use_no x1 hx0 L).mono ?_
              rintro e w4 ⟨rfl, hw⟩
              obtain rfl := hw.symm
              have L4 := L
              have R4 := R
              have B4 := B
              clear L R B vC hvc hx0
              go_wp2_with fail
              rcases List.eq_nil_or_concat (o) with he | ⟨oa, ox, he⟩
              · rw [he] at L4 R4
                have HE := Lib.hid he
                clear he
                refine (lru_oldest_nil L4).mono ?_
                rintro e w5 ⟨rfl, b5⟩
                have L5 := L4.below b5
                have R5 := Kd.R_below R4 b5
                have B5 := B4.trans (b5.mono B4.size)
                obtain ⟨A5, c5, rfl, hc5, C5⟩ := Kd.R_reads R5
                have H5 := Lib.hid (And.intro (And.intro L5 R5) B5)
                clear L4 R4 B4 b5 L5 R5 B5 hc5 C5
                simp only [ofN, List.map_nil, List.length_nil]
                go_wp2
                go_roundg (ops.length - j)
                case measure => have := HJ.out; omega
                case rel => exact ⟨j + 1, [], by omega, by omega, by go_num, H5.out.1.1, H5.out.1.2, H5.out.2⟩
              · rw [List.concat_eq_append] at he
                rw [he] at L4 R4
                have HE := Lib.hid he
                clear he
                have hol5 : oa.length ≤ 2000 := by have := L4.nd.2.2; simp at this; omega
                refine (lru_oldest_snoc L4).mono ?_
                rintro e w5 ⟨rfl, b5⟩
                have L5 := L4.below b5
                have R5 := Kd.R_below R4 b5
                have B5 := B4.trans (b5.mono B4.size)
                obtain ⟨A5, c5, rfl, hc5, C5⟩ := Kd.R_reads R5
                have hln : (ofN (oa ++ [ox])).length = oa.length + 1 := by simp [ofN]
                obtain ⟨ad5, rfl, cc5⟩ := Kd.at_int C5 (oa.length : Int) (by omega) (by omega)
                have hrd5 : rd (ofN (oa ++ [ox])) (oa.length : Int) = (ox : Int) := by simp [rd, ofN, List.getD]
                rw [hrd5, Int.toNat_natCast] at cc5
                obtain ⟨pb5, po5, had5⟩ := addr_plain cc5
                rw [had5] at cc5
                have H5 := Lib.hid (And.intro (And.intro L5 R5) B5)
                clear L4 R4 B4 b5 L5 R5 B5 hc5 C5 hrd5
                rw [hln] at *
                have hgt : (0 : Int) < ((oa.length + 1 : Nat) : Int) := by omega
                generalize oa.length = ol at *
                go_wp2
                go_roundg (ops.length - j)
                case measure => have := HJ.out; omega
                case rel => exact ⟨j + 1, oa ++ [ox], by omega, by omega, by go_num, H5.out.1.1, H5.out.1.2, H5.out.2⟩
            · go_wp2_with fail
              obtain ⟨⟨L, R⟩, B, hnd⟩ := HL.out
              obtain ⟨hvc, vC⟩ := HV.out
              generalize hwb : wr.alloc _ = wb
              have mb : Below wr.heap.size wr wb := hwb ▸ (Below.refl _ _).alloc (Nat.le_refl _) _
              have bx : wb.cell? ⟨wr.heap.size, 1, none⟩ = some (.int .i64 x1) := by rw [← hwb]; exact World.cell?_alloc_new _ _ _ _
              have hsz := B.size
              have hbx : b < wr.heap.size := L.lt.2
              have bxl : wr.heap.size < wb.heap.size := World.block_lt_of_cell? _ _ bx
              clear hwb cx0 cx1 had
              replace L := L.below mb
              replace R := Kd.R_below R mb
              replace vC := Kd.C_below vC mb
              replace B := B.trans (mb.mono B.size)
              have hbl := L.lt.2
              have hol : (ofN o).length ≤ 1024 := by have := hnd.2.2; simp [ofN]; omega
              clear HV HL
              have bxx : ∀ W, Below wb.heap.size wb W → W.cell? ⟨wr.heap.size, 1, none⟩ = some (.int .i64 x1) := fun W h => (h.cell bxl).trans bx
              have BX := Lib.hid bxx
              clear bxx mb
              generalize wr.heap.size = x at *
              generalize Value.slice vA (ofN o).length vc = v4 at R ⊢
              refine (lru_use_no x1 hx0 L).mono ?_
              rintro e w4 ⟨rfl, hw⟩
              obtain rfl := hw.symm
              have L4 := L
              have R4 := R
              have B4 := B
              clear L R B vC hvc hx0
              go_wp2_with fail
              rcases List.eq_nil_or_concat (o) with he | ⟨oa, ox, he⟩
              · rw [he] at L4 R4
                have HE := Lib.hid he
                clear he
                refine (lru_oldest_nil L4).mono ?_
                rintro e w5 ⟨rfl, b5⟩
                have L5 := L4.below b5
                have R5 := Kd.R_below R4 b5
                have B5 := B4.trans (b5.mono B4.size)
                obtain ⟨A5, c5, rfl, hc5, C5⟩ := Kd.R_reads R5
                have H5 := Lib.hid (And.intro (And.intro L5 R5) B5)
                clear L4 R4 B4 b5 L5 R5 B5 hc5 C5
                simp only [ofN, List.map_nil, List.length_nil]
                go_wp2
                go_roundg (ops.length - j)
                case measure => have := HJ.out; omega
                case rel => exact ⟨j + 1, [], by omega, by omega, by go_num, H5.out.1.1, H5.out.1.2, H5.out.2⟩
              · rw [List.concat_eq_append] at he
                rw [he] at L4 R4
                have HE := Lib.hid he
                clear he
                have hol5 : oa.length ≤ 2000 := by have := L4.nd.2.2; simp at this; omega
                refine (lru_oldest_snoc L4).mono ?_
                rintro e w5 ⟨rfl, b5⟩
                have L5 := L4.below b5
                have R5 := Kd.R_below R4 b5
                have B5 := B4.trans (b5.mono B4.size)
                obtain ⟨A5, c5, rfl, hc5, C5⟩ := Kd.R_reads R5
                have hln : (ofN (oa ++ [ox])).length = oa.length + 1 := by simp [ofN]
                obtain ⟨ad5, rfl, cc5⟩ := Kd.at_int C5 (oa.length : Int) (by omega) (by omega)
                have hrd5 : rd (ofN (oa ++ [ox])) (oa.length : Int) = (ox : Int) := by simp [rd, ofN, List.getD]
                rw [hrd5, Int.toNat_natCast] at cc5
                obtain ⟨pb5, po5, had5⟩ := addr_plain cc5
                rw [had5] at cc5
                have H5 := Lib.hid (And.intro (And.intro L5 R5) B5)
                clear L4 R4 B4 b5 L5 R5 B5 hc5 C5 hrd5
                rw [hln] at *
                have hgt : (0 : Int) < ((oa.length + 1 : Nat) : Int) := by omega
                generalize oa.length = ol at *
                go_wp2
                go_roundg (ops.length - j)
                case measure => have := HJ.out; omega
                case rel => exact ⟨j + 1, oa ++ [ox], by omega, by omega, by go_num, H5.out.1.1, H5.out.1.2, H5.out.2⟩
    · have hjl' : ¬ (j : Int) < (ops.length : Int) := by omega
      obtain ⟨vA, vc, rfl, hvc, vC⟩ := Kd.R_reads R
      have HR := Lib.hid (And.intro hvc vC)
      have hlen := L.nd.2.2
      have HO := Lib.hid (lru_order L h2)
      clear R hvc vC
      go_wp2_with (go_at_call 15; refine HO.out.mono ?_; rintro e w4 ⟨v4, rfl, R4, b4⟩)
      obtain ⟨A4, c4, rfl, hc4, C4⟩ := Kd.R_reads R4
      have H4 := Lib.hid (And.intro hc4 C4)
      clear R4 hc4 C4
      go_wp2_with fail
      refine (same_calls (ofN o) (ofN o) A4 vA c4 vc _ H4.out.2 H4.out.1 (Kd.C_below HR.out.2 b4) HR.out.1 rfl).mono ?_
      rintro e w5 ⟨rfl, b5⟩
      have B5 := (B.trans (b4.mono B.size)).trans (b5.mono (Nat.le_trans B.size b4.size))
      go_wp2
      go_ret
      exact ⟨rfl, B5⟩

theorem plays_any (n : Int) (ops : List S30) (A : Option Addr) (c : Nat) (w : World) (hC : k30.C w A ops.length ops) :
    Calls Try.prog 3 #[.int .i64 n, .slice A ops.length c] w fun e w' => e = .returned (.bool true) ∧ Below w.heap.size w w' := by
  by_cases h : 1 ≤ n ∧ n ≤ 1024
  · obtain ⟨m, rfl⟩ := Int.eq_ofNat_of_zero_le (show 0 ≤ n by omega)
    exact plays_yes m ops A c w hC (by omega) (by omega)
  · exact plays_no n _ w h
end Go.Proofs.Ytgfkfmnncjjopaa
