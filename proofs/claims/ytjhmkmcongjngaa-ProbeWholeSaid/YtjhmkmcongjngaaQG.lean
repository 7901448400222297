import Derived.Test.YtjhmkmcongjngaaQK
set_option linter.unusedVariables false
set_option linter.unusedSimpArgs false
namespace Go.Proofs.Ytjhmkmcongjngaa
open Go.RowKit Go.Tat Go.Proofs.YtjhmkmcongjngaaW.PrintWords PProbePlays
set_option maxRecDepth 100000 in
set_option maxHeartbeats 4000000 in
theorem tick_c (g : Nat) (S : Nat → Prop) (p : Pr) (x : Int) (A : Option Addr) (c : Nat) (hs : List Int) (w : World) (h : PRep w g S p) (ok : Okay p) (hx : 0 ≤ x) (hC : (Kd.int .u8).C w A hs.length hs) (hc : hs.length ≤ c) (hl : hs.length ≤ 4000000000000000000) (hv : ∀ h ∈ hs, 0 ≤ h ∧ h < 256)
    (hg : ∀ ad, A = some ad → 0 < hs.length → ad.block ≠ g) : Calls Try.prog 10 #[.pointer (some ⟨g, 0, none⟩), .int .u64 x, .slice A hs.length c] w (tickPost p g S x hs w) := by
  have HC := Lib.hid (And.intro hC (And.intro hc (And.intro hl (And.intro hv (And.intro hg hx)))))
  have HO := Lib.hid ok
  have HP := Lib.hid h
  have hgl := h.lt
  obtain ⟨vr, vw, hb, hgg, hr, hw⟩ := h
  obtain ⟨A4, c4, rfl⟩ := Kd.R_slice hw
  obtain ⟨A2, c2, rfl⟩ := Kd.R_slice hr
  have cg4 : w.cell? ⟨g, 4, none⟩ = some (.slice A4 p.waits.length c4) := blk_cell hb 4
  obtain ⟨_, _, hwC⟩ := Kd.R_reads' hw
  have hwmax := Kd.C_max hwC
  have HW := Lib.hid (And.intro hwC (And.intro hr (And.intro hw hb)))
  clear hwC hr hw hb hgg hC hc hl hv hg hx ok
  go_enter Try.func10, Try.ntmps10
  go_upto_block 0 with fail
  obtain ⟨s0, hs0⟩ : ∃ s0, w.heap.size = s0 := ⟨_, rfl⟩
  have N0 : Rnd ((w.alloc (.cells #[.slice none 0 0, .slice none 0 0, .slice none 0 0] 32)).alloc (.cells #[.slice none 0 0, .slice none 0 0, .slice none 0 0] 32)) (w.heap.size + 1) w.heap.size (.slice none 0 0) (.slice none 0 0) ⟨[], [], []⟩ :=
    ⟨by rw [show w.heap.size + 1 = (w.alloc (.cells #[.slice none 0 0, .slice none 0 0, .slice none 0 0] 32)).heap.size by simp]; exact heap_alloc_new _ _, Kd.R_nil _ _ _ _ _, Kd.R_nil _ _ _ _ _, rfl⟩
  have b0 : Below w.heap.size w ((w.alloc (.cells #[.slice none 0 0, .slice none 0 0, .slice none 0 0] 32)).alloc (.cells #[.slice none 0 0, .slice none 0 0, .slice none 0 0] 32)) := ((Below.refl _ _).alloc (Nat.le_refl _) _).alloc (by simp) _
  have res0 : ((w.alloc (.cells #[.slice none 0 0, .slice none 0 0, .slice none 0 0] 32)).alloc (.cells #[.slice none 0 0, .slice none 0 0, .slice none 0 0] 32)).heap[w.heap.size]? = some (.cells #[.slice none 0 0, .slice none 0 0, .slice none 0 0] 32 (0, 0)) := by
    exact (Below.heap_alloc _ _ _ (by simp)).trans (heap_alloc_new _ _)
  have H0 := Lib.hid (And.intro N0 (And.intro b0 res0))
  rw [hs0] at H0
  clear N0 b0 res0
  rw [hs0]
  generalize World.alloc _ _ = w0 at *
  go_cut [8] (fun v8 wx => W1post p g (s0 + 1) s0 S x hs w v8 wx ∧ wx.heap[s0]? = some (.cells #[.slice none 0 0, .slice none 0 0, .slice none 0 0] 32 (0, 0)))
  case first =>
    go_wp2_with fail
    go_loopg [8, 24] (p.waits.length + 1) (fun k v8 v24 W => ∃ (j : Nat) (vA vF : Value) (rd : Rd) (ws : List S82), j + k = p.waits.length + 1 ∧ j ≤ p.waits.length ∧ v24 = .int .i64 j ∧ (rd, ws) = (p.waits.take j).foldl (passF p.self p.n x hs) (⟨[], [], []⟩, []) ∧
      Rnd W (s0 + 1) s0 vA vF rd ∧ k82.R 82 W 0 (fun k => s0 ≤ k) v8 ws ∧ Below s0 w W ∧ W.heap[s0]? = some (.cells #[.slice none 0 0, .slice none 0 0, .slice none 0 0] 32 (0, 0)) ∧ (ws.length ≤ j ∧ rd.failed.length ≤ j ∧ rd.asks.length ≤ 2 * j))
    case atStart => exact ⟨0, _, _, _, _, by omega, by omega, rfl, rfl, H0.out.1, Kd.R_nil _ _ _ _ _, H0.out.2.1, H0.out.2.2, by simp⟩
    case round =>
      clear H0
      obtain ⟨j, vA, vF, rd, ws, hjk, hj, rfl, hfold, RN, RW, B, res, hlen⟩ := hrel
      have hsz := heap_lt RN.blk
      obtain ⟨AA, cA, rfl⟩ := Kd.R_slice RN.A
      obtain ⟨AF, cF, rfl⟩ := Kd.R_slice RN.F
      obtain ⟨AW, cW, rfl⟩ := Kd.R_slice RW
      have HJ := Lib.hid (And.intro hjk (And.intro hfold (And.intro B res)))
      have HN := Lib.hid (And.intro RN RW)
      have HL := Lib.hid hlen
      clear hjk hfold B res RN RW hlen
      by_cases hjl : j < p.waits.length
      · have hjl' : (j : Int) < (p.waits.length : Int) := by omega
        obtain ⟨ad, hA4, cx0, cx1⟩ := at_T82 HW.out.1 (j : Int) (by omega) hjl'
        subst hA4
        have hx : rd_T82 p.waits (j : Int) = p.waits[j] := by unfold rd_T82; rw [Int.toNat_natCast]; simp [List.getD, List.getElem?_eq_getElem hjl]
        rw [hx] at cx0 cx1
        replace cx0 := (HJ.out.2.2.1.cell (hs0 ▸ World.block_lt_of_cell? w _ cx0)).trans cx0
        replace cx1 := (HJ.out.2.2.1.cell (hs0 ▸ World.block_lt_of_cell? w _ cx1)).trans cx1
        rw [Int.toNat_natCast] at cx0 cx1
        obtain ⟨pb, po, had⟩ : ∃ b o, ad.add (j * 2) = ⟨b, o, none⟩ := by
          generalize ad.add (j * 2) = q at cx0
          obtain ⟨b, o, s⟩ := q
          cases s with
          | none => exact ⟨b, o, rfl⟩
          | some s => unfold World.cell? at cx0; dsimp only at cx0; split at cx0 <;> simp at cx0
        rw [had] at cx0 cx1
        dsimp only at cx1
        clear hx
        have hu := HO.out.wf _ (List.getElem_mem hjl)
        have htk : p.waits.take (j + 1) = p.waits.take j ++ [p.waits[j]] := (List.take_append_getElem hjl).symm
        generalize hy : p.waits[j] = u at *
        clear hy
        have HT := Lib.hid htk
        clear htk
        obtain ⟨u0, u1⟩ := u
        dsimp only at cx0 cx1 hu
        have hu1 : u1 + 1 < 9223372036854775808 := by omega
        go_upto_region 9 with fail
        have b3 : Below wr.heap.size wr (wr.alloc (.cells #[.int .u8 u0, .int .i64 (u1 + 1)] 82)) := (Below.refl wr.heap.size wr).alloc (Nat.le_refl _) _
        have hb3 : (wr.alloc (.cells #[.int .u8 u0, .int .i64 (u1 + 1)] 82)).heap[wr.heap.size]? = some (.cells #[.int .u8 u0, .int .i64 (u1 + 1)] 82 (0, 0)) := heap_alloc_new wr _
        have hB := HJ.out.2.2.1
        have hsw : s0 + 1 < wr.heap.size := hsz
        have N3 := HN.out.1.below b3
        have R3 := Kd.R_below HN.out.2 b3
        have B3 := hB.trans (b3.mono (by omega))
        have res3 := (b3.block s0 (by omega)).trans HJ.out.2.2.2
        have hsz3 := b3.size
        clear hB b3 HN
        replace HJ := Lib.hid (And.intro HJ.out.1 HJ.out.2.1)
        generalize wr.alloc _ = w3 at *
        generalize wr.heap.size = bq at *
        have hs3 : s0 + 1 < w3.heap.size := by omega
        have hbq : s0 + 1 < bq := hsw
        clear cx0 cx1 had hsz hsw hsz3
        by_cases h2 : u1 + 1 = 2
        · have cq0 : w3.cell? ⟨bq, 0, none⟩ = some (.int .u8 u0) := blk_cell hb3 0
          have cq1 : w3.cell? ⟨bq, 1, none⟩ = some (.int .i64 (u1 + 1)) := blk_cell hb3 1
          have cr : w3.cell? ⟨s0 + 1, 2, none⟩ = some (.slice AF rd.failed.length cF) := blk_cell N3.blk 2
          have H3 := Lib.hid (And.intro N3 (And.intro R3 (And.intro B3 (And.intro res3 hb3))))
          clear N3 R3 B3 res3 hb3
          have hfl : (rd.failed.length + 1) * 1 ≤ 140737488355328 := by have := HL.out; have := HO.out.wl; omega
          go_wp2_with (at_builtin; go_loud (refine wpList_app1 (Kd.int .u8) rfl _ _ 28 5 (.int .u8 0) 1 rfl Try.underlying28 info5 rfl (by decide) (by decide) (.slice AF rd.failed.length cF) rd.failed u0 [.int .u8 u0] (fun k => s0 ≤ k) rfl rfl rfl H3.out.1.F hfl ?_))
          intro A5 c5 w5 R5 m5 ho5
          have hb5 := blk_other H3.out.1.F m5 H3.out.1.blk (by decide)
          have ce5 : w5.cell? ⟨s0 + 1, 2, none⟩ = some (.slice AF rd.failed.length cF) := blk_cell hb5 2
          have fe5 := blk_frozen hb5 2
          have H5 := Lib.hid (And.intro R5 m5)
          clear R5 m5 ho5 hb5
          go_wp2
          go_roundg (p.waits.length - j)
          case measure => have := HJ.out.1; omega
          case rel =>
            obtain ⟨N3, R3, B3, res3, hb3⟩ := H3.out
            obtain ⟨R5, m5⟩ := H5.out
            have hlen := HL.out
            have NN := N3.addF u0 m5 R5 (by omega)
            have m6 : Mod (fun k => k = s0 + 1) w5 (w5.setCell ⟨s0 + 1, 2, none⟩ (.slice A5 (rd.failed.length + 1) c5)) := Mod.setCell (S := fun k => k = s0 + 1) rfl _
            have hb5 := blk_other N3.F m5 N3.blk (by decide)
            have hsz5 := m5.size
            refine ⟨j + 1, _, _, _, ws, by have := HJ.out.1; omega, by omega, by go_num, ?_, NN, ?_, ?_, ?_, ?_⟩
            · rw [HT.out, List.foldl_append, ← HJ.out.2]
              show _ = passF p.self p.n x hs (rd, ws) ⟨u0, u1⟩
              unfold passF
              rw [if_pos h2]
            · exact W_stay (W_stay R3 m5 5 (by decide) (R_block N3.F)) m6 32 (by decide) (fun k hk => ⟨_, hk ▸ hb5⟩)
            · exact below_of_mod (below_of_mod B3 m5 (by omega) fun k hk => N3.F.1 k hk) m6 (by omega) fun k hk => by omega
            · exact (m6.block s0 (by omega) (by omega)).trans (blk_other N3.F m5 res3 (by decide))
            · exact ⟨by omega, by simp; omega, by simpa using (by omega : rd.asks.length ≤ 2 * (j + 1))⟩
        · have P3 : PRep w3 g S p := HP.out.below (by rw [hs0]; exact B3)
          have HK := Lib.hid (helpers_c P3 x A c hs u0 HC.out.2.2.2.2.2 (Kd.C_below HC.out.1 (by rw [hs0]; exact B3)) HC.out.2.1 HC.out.2.2.1 HC.out.2.2.2.1 HC.out.2.2.2.2.1)
          have cq0 : w3.cell? ⟨bq, 0, none⟩ = some (.int .u8 u0) := blk_cell hb3 0
          have cq1 : w3.cell? ⟨bq, 1, none⟩ = some (.int .i64 (u1 + 1)) := blk_cell hb3 1
          have H3 := Lib.hid (And.intro N3 (And.intro R3 (And.intro B3 (And.intro res3 hb3))))
          clear N3 R3 B3 res3 hb3 P3
          go_upto_region 11 with fail
          go_wp2_with fail
          refine HK.out.mono ?_
          rintro e w4 ⟨v4, rfl, R4, b4⟩
          obtain ⟨N3, R3, B3, res3, hb3⟩ := H3.out
          have N4 := N3.below b4
          have W4 := Kd.R_below R3 b4
          have B4 := B3.trans (b4.mono (by omega))
          have res4 := (b4.block s0 (by omega)).trans res3
          have hb4 := (b4.block bq (heap_lt hb3)).trans hb3
          have hs4 : s0 + 1 < w4.heap.size := heap_lt N4.blk
          obtain ⟨Ah, ch, rfl, hch, Ch⟩ := Kd.R_reads R4
          have hmh := Kd.C_max Ch
          have H4 := Lib.hid (And.intro N4 (And.intro W4 (And.intro B4 (And.intro res4 (And.intro hb4 R4)))))
          have hlh := hlp_len (self := p.self) (n := p.n) (tgt := u0) (rot hs x) [] (by simp)
          change (hlpF p.self p.n x hs u0).length ≤ 2 at hlh
          clear N3 R3 B3 res3 hb3 N4 W4 B4 res4 hb4 R4 Ch H3 HK cq0 cq1
          generalize hhl : hlpF p.self p.n x hs u0 = hl at *
          have HH := Lib.hid hhl
          clear hhl
          go_wp2_with fail
          go_loopg [49] (hl.length + 1) (fun k v W => ∃ (i : Nat) (vA' : Value), i + k = hl.length + 1 ∧ i ≤ hl.length ∧ v = .int .i64 i ∧
            Rnd W (s0 + 1) s0 vA' (.slice AF rd.failed.length cF) { rd with asks := rd.asks ++ (hl.take i).map fun h => ⟨h, u0⟩ } ∧ k82.R 82 W 0 (fun k => s0 ≤ k) (.slice AW ws.length cW) ws ∧ Below s0 w W ∧
            W.heap[s0]? = some (.cells #[.slice none 0 0, .slice none 0 0, .slice none 0 0] 32 (0, 0)) ∧ W.heap[bq]? = some (.cells #[.int .u8 u0, .int .i64 (u1 + 1)] 82 (0, 0)) ∧ (Kd.int .u8).R 5 W w3.heap.size (fun _ => True) (.slice Ah hl.length ch) hl)
          case atStart => exact ⟨0, _, by omega, by omega, rfl, by simpa using H4.out.1, H4.out.2⟩
          case round =>
            clear H4
            obtain ⟨i, vA', hik, hi, rfl, N, W8, B, res, hb, Rh⟩ := hrel
            obtain ⟨AA', cA', rfl⟩ := Kd.R_slice N.A
            have hsz := heap_lt N.blk
            have HI := Lib.hid hik
            have cq0 : wr.cell? ⟨bq, 0, none⟩ = some (.int .u8 u0) := blk_cell hb 0
            by_cases hil : i < hl.length
            · have hil' : (i : Int) < (hl.length : Int) := by omega
              obtain ⟨hle, hvc, Ch⟩ := Kd.R_reads' Rh
              obtain ⟨adh, hAh, ch0⟩ := Kd.at_int Ch (i : Int) (by omega) hil'
              subst hAh
              have hrd : YtjhmkmcongjngaaW.PrintWords.rd hl (i : Int) = hl[i] := by unfold YtjhmkmcongjngaaW.PrintWords.rd; rw [Int.toNat_natCast]; simp [List.getD, List.getElem?_eq_getElem hil]
              rw [hrd, Int.toNat_natCast] at ch0
              obtain ⟨ph, qh, hadh⟩ : ∃ b o, adh.add i = ⟨b, o, none⟩ := by
                generalize adh.add i = q at ch0
                obtain ⟨b, o, s⟩ := q
                cases s with
                | none => exact ⟨b, o, rfl⟩
                | some s => unfold World.cell? at ch0; dsimp only at ch0; split at ch0 <;> simp at ch0
              rw [hadh] at ch0
              have hth : hl.take (i + 1) = hl.take i ++ [hl[i]] := (List.take_append_getElem hil).symm
              generalize hy : hl[i] = y at *
              clear hy hrd hle
              have hal : (rd.asks ++ (hl.take i).map fun h => (⟨h, u0⟩ : S80)).length ≤ 2 * j + 2 := by
                have := HL.out.2.2
                simp only [List.length_append, List.length_map, List.length_take]; omega
              have cr : wr.cell? ⟨s0 + 1, 1, none⟩ = some (.slice AA' (rd.asks ++ (hl.take i).map fun h => (⟨h, u0⟩ : S80)).length cA') := blk_cell N.blk 1
              have HT2 := Lib.hid hth
              have hb2 : ((rd.asks ++ (hl.take i).map fun h => (⟨h, u0⟩ : S80)).length + 1) * 2 ≤ 140737488355328 := by have := HO.out.wl; omega
              clear hth hal
              obtain ⟨rq, hrq⟩ : ∃ rq : Rd, rq = { rd with asks := rd.asks ++ (hl.take i).map fun h => (⟨h, u0⟩ : S80) } := ⟨_, rfl⟩
              have e1 : rq.asks = rd.asks ++ (hl.take i).map fun h => (⟨h, u0⟩ : S80) := by rw [hrq]
              rw [← e1] at cr hb2
              have e2 : (Value.slice AA' ({ rd with asks := rd.asks ++ (hl.take i).map fun h => (⟨h, u0⟩ : S80) } : Rd).asks.length cA') = .slice AA' rq.asks.length cA' := by rw [e1]
              rw [e2, ← hrq] at N
              have HQ := Lib.hid hrq
              clear e1 e2 hrq
              have H6 := Lib.hid (And.intro N (And.intro W8 (And.intro B (And.intro res (And.intro hb Rh)))))
              clear N W8 B res hb Rh Ch
              go_wp2_with (at_builtin; go_loud (refine wpList_app1 k80 rfl _ _ 30 80 (.agg #[(.int .u8 0), (.int .u8 0)]) 2 rfl Try.underlying30 info80 rfl (by decide) (by decide) (.slice AA' rq.asks.length cA') rq.asks ⟨y, u0⟩ [.int .u8 y, .int .u8 u0] (fun k => s0 ≤ k) rfl rfl (k80_mkM _ _ _ _) H6.out.1.A hb2 ?_))
              intro A5 c5 w5 R5 m5 ho5
              have hb5 := blk_other H6.out.1.A m5 H6.out.1.blk (by decide)
              have ce5 : w5.cell? ⟨s0 + 1, 1, none⟩ = some (.slice AA' rq.asks.length cA') := blk_cell hb5 1
              have fe5 := blk_frozen hb5 1
              have H5 := Lib.hid (And.intro R5 m5)
              clear R5 m5 ho5 hb5
              go_wp2
              go_roundg (hl.length - i)
              case measure => have := HI.out; omega
              case rel =>
                obtain ⟨N, W8, B, res, hb, Rh⟩ := H6.out
                obtain ⟨R5, m5⟩ := H5.out
                have NN := N.addA ⟨y, u0⟩ m5 R5 (by omega)
                have m6 : Mod (fun k => k = s0 + 1) w5 (w5.setCell ⟨s0 + 1, 1, none⟩ (.slice A5 (rq.asks.length + 1) c5)) := Mod.setCell (S := fun k => k = s0 + 1) rfl _
                have hb5 := blk_other N.A m5 N.blk (by decide)
                have hr6 : ∀ k, k = s0 + 1 → ∃ cells, w5.heap[k]? = some (.cells cells 32 (0, 0)) := fun k hk => ⟨_, hk ▸ hb5⟩
                have hsz5 := m5.size
                refine ⟨i + 1, .slice A5 (rq.asks.length + 1) c5, by have := HI.out; omega, by omega, by go_num, ?_, ?_, ?_, ?_, ?_, ?_⟩
                · rw [HT2.out, List.map_append, ← List.append_assoc]
                  have e1 := HQ.out
                  have e3 : ({ rd with asks := rd.asks ++ (hl.take i).map (fun h => (⟨h, u0⟩ : S80)) ++ [y].map (fun h => (⟨h, u0⟩ : S80)) } : Rd) = { rq with asks := rq.asks ++ [⟨y, u0⟩] } := by rw [e1]; rfl
                  rw [e3]
                  exact NN
                · exact W_stay (W_stay W8 m5 80 (by decide) (R_block N.A)) m6 32 (by decide) hr6
                · exact below_of_mod (below_of_mod B m5 (by omega) fun k hk => N.A.1 k hk) m6 (by omega) fun k hk => by omega
                · exact (m6.block s0 (by omega) (by omega)).trans (blk_other N.A m5 res (by decide))
                · exact (m6.block bq (by have := heap_lt hb; omega) (by omega)).trans (blk_other N.A m5 hb (by decide))
                · exact R_other (R_other Rh m5 80 (R_block N.A) (by decide)) m6 32 hr6 (by decide)
            · have hil' : ¬ (i : Int) < (hl.length : Int) := by omega
              have hie : i = hl.length := by omega
              have cq1 : wr.cell? ⟨bq, 1, none⟩ = some (.int .i64 (u1 + 1)) := blk_cell hb 1
              rw [hie, List.take_length] at N
              have H6 := Lib.hid (And.intro N (And.intro W8 (And.intro B res)))
              have hwb : (ws.length + 1) * 16 ≤ 140737488355328 := by have := HL.out; have := HO.out.wl; omega
              clear N W8 B res hb Rh hie
              go_wp2_with (at_builtin; go_loud (refine wpList_app1 k82 rfl _ _ 76 82 (.agg #[(.int .u8 0), (.int .i64 0)]) 16 rfl Try.underlying76 info82 rfl (by decide) (by decide) (.slice AW ws.length cW) ws ⟨u0, u1 + 1⟩ [.int .u8 u0, .int .i64 (u1 + 1)] (fun k => s0 ≤ k) rfl rfl (k82_mkM _ _ _ _) H6.out.2.1 hwb ?_))
              intro A5 c5 w5 R5 m5 ho5
              have H5 := Lib.hid (And.intro R5 m5)
              clear R5 m5 ho5
              go_wp2
              go_roundg (p.waits.length - j)
              case measure => have := HJ.out.1; omega
              case rel =>
                obtain ⟨N, W8, B, res⟩ := H6.out
                obtain ⟨R5, m5⟩ := H5.out
                have hlen := HL.out
                have hsz5 := m5.size
                refine ⟨j + 1, _, _, _, ws ++ [⟨u0, u1 + 1⟩], by have := HJ.out.1; omega, by omega, by go_num, ?_, ⟨blk_other W8 m5 N.blk (by decide), R_other N.A m5 82 (R_block W8) (by decide), R_other N.F m5 82 (R_block W8) (by decide), N.P⟩, ?_, ?_, ?_, ?_⟩
                · rw [HT.out, List.foldl_append, ← HJ.out.2]
                  show _ = passF p.self p.n x hs (rd, ws) ⟨u0, u1⟩
                  unfold passF
                  rw [if_neg h2, HH.out]
                  rfl
                · exact Kd.R_mono R5 fun k hk => by omega
                · exact below_of_mod B m5 (by omega) fun k hk => W8.1 k hk
                · exact blk_other W8 m5 res (by decide)
                · refine ⟨by simp; omega, by show rd.failed.length ≤ j + 1; omega, ?_⟩
                  show (rd.asks ++ hl.map fun h => (⟨h, u0⟩ : S80)).length ≤ 2 * (j + 1)
                  rw [List.length_append, List.length_map]; omega
      · have hjl' : ¬ (j : Int) < (p.waits.length : Int) := by omega
        go_wp2_with fail
        go_meet
        case rel =>
          have hje : j = p.waits.length := by omega
          have hf := HJ.out.2.1
          rw [hje, List.take_length] at hf
          have e1 : (pass p x hs).1 = rd := congrArg Prod.fst hf.symm
          have e2 : (pass p x hs).2 = ws := congrArg Prod.snd hf.symm
          have hB := HJ.out.2.2.1
          exact ⟨⟨_, _, e1 ▸ HN.out.1, e2 ▸ HN.out.2, HP.out.below (by rw [hs0]; exact hB), hB⟩, HJ.out.2.2.2⟩
  case rest =>
    clear H0
    obtain ⟨⟨vA, vF, RN, RW, PP, B⟩, res⟩ := hcut
    have hgs : g < s0 := by omega
    have PB := HP.out.bound
    rw [hs0] at PB
    have PB' := PB.below (by rw [hs0]; exact B)
    have RWT := Kd.R_apartR (Kd.R_apartR RW RN.F (by decide)) RN.A (by decide)
    have PW := PRep.putWaits PB' (S2 := TS S s0 vA vF) (fun k hk => .inl hk) RWT (fun k hk => .inr hk) (fun k hk h => by have := hk.1.1; have := h.2; omega)
    have RW6 := Kd.R_far (Kd.R_mono (ok' := ND s0 vA vF) RWT fun k hk => hk) (p := ⟨g, 4, none⟩) (fun k hk => by show k ≠ g; have := hk.1.1; omega)
    obtain ⟨AA, cA, rfl⟩ := Kd.R_slice RN.A
    obtain ⟨AF, cF, rfl⟩ := Kd.R_slice RN.F
    obtain ⟨AW, cW, rfl⟩ := Kd.R_slice RW
    have RN6 := RN.far (p := ⟨g, 4, none⟩) hgs (by omega) (.slice AW (pass p x hs).2.length cW)
    have res6 := blk_far res (p := ⟨g, 4, none⟩) (by show s0 ≠ g; omega) (.slice AW (pass p x hs).2.length cW)
    have M6 : Mod S w (wc.setCell ⟨g, 4, none⟩ (.slice AW (pass p x hs).2.length cW)) := (Mod.of_below (S := S) (hs0 ▸ B)).set HP.out.mem _
    obtain ⟨vr', vw', hb', _, hrB, hw'⟩ := PB'
    obtain ⟨A5, c5, rfl⟩ := Kd.R_slice hw'
    have ce5 : wc.cell? ⟨g, 4, none⟩ = some (.slice A5 p.waits.length c5) := blk_cell hb' 4
    have fe5 := blk_frozen hb' 4
    have hb6' : (wc.setCell ⟨g, 4, none⟩ (.slice AW (pass p x hs).2.length cW)).heap[g]? = some (.cells #[.int .u8 p.self, .int .i64 p.n, vr', .int .i64 p.place, .slice AW (pass p x hs).2.length cW] 78 (0, 0)) := by simpa using blk_set hb' 4 (.slice AW (pass p x hs).2.length cW)
    have hr6' := Kd.R_far hrB (p := ⟨g, 4, none⟩) (fun k hk => hk.2) (.slice AW (pass p x hs).2.length cW)
    have hw6' := RW6 (.slice AW (pass p x hs).2.length cW)
    have HN := Lib.hid (And.intro RN6 (And.intro PW (And.intro res6 M6)))
    have H66 := Lib.hid (And.intro hb6' (And.intro hr6' hw6'))
    clear RN RW RWT PB PW RN6 RW6 res6 M6 hb' hw' hrB hb6' hr6' hw6' res B PP
    go_upto_region 19 with fail
    obtain ⟨w6, hw6⟩ : ∃ w6, wc.setCell ⟨g, 4, none⟩ (.slice AW (pass p x hs).2.length cW) = w6 := ⟨_, rfl⟩
    rw [hw6] at HN H66 ⊢
    clear hw6 ce5 fe5
    have hrn : (pass p x hs).1.pings = [] := HN.out.1.P
    obtain ⟨A6, c6, rfl⟩ := Kd.R_slice H66.out.2.1
    obtain ⟨hb6, hr6, hw6⟩ := H66.out
    have cg1 : w6.cell? ⟨g, 1, none⟩ = some (.int .i64 p.n) := blk_cell hb6 1
    by_cases hn1 : p.n = 1
    · rw [hn1] at cg1
      have hr32 := HN.out.1.blk
      have hres := HN.out.2.2.1
      clear hb6 hr6 hw6
      go_upto_region 20 with fail
      go_step
      refine wpList_load_row rfl 32 _ rfl (s0 + 1) rfl 32 _ (0, 0) _ hr32 Try.underlying32 rfl size32 ?_
      refine wpList_store_row rfl 32 _ _ rfl s0 _ rfl rfl 32 _ hres size32 rfl (by simp [Value.oneCell']) ?_
      have hrow := setRow_heap w6 s0 _ #[.slice none 0 0, .slice AA (pass p x hs).1.asks.length cA, .slice AF (pass p x hs).1.failed.length cF] 32 _ hres
      have mrow : Mod (fun k => k = s0) w6 (w6.setRow s0 #[.slice none 0 0, .slice AA (pass p x hs).1.asks.length cA, .slice AF (pass p x hs).1.failed.length cF]) := ⟨by simp, by simp, by simp, by simp, fun k _ hk => setRow_other w6 s0 k _ hk⟩
      generalize w6.setRow _ _ = w7 at *
      go_wp2
      refine bodyPost_ret (results_cell_row rfl _ _ s0 32 _ (0, 0) _ rfl hrow Try.underlying32 rfl size32) rfl ?_
      have hF : ∀ k, k = s0 → ∃ cells, w6.heap[k]? = some (.cells cells 32 (0, 0)) := fun k hk => ⟨_, hk ▸ hres⟩
      have ht : tickF p x hs = ((pass p x hs).1, { p with waits := (pass p x hs).2 }) := by unfold tickF; simp only; rw [if_pos hn1]
      unfold tickPost
      rw [ht, hs0, hrn]
      refine ⟨_, _, _, rfl, Kd.R_nil _ _ _ _ _, R_other HN.out.1.A mrow 32 hF (by decide), R_other HN.out.1.F mrow 32 hF (by decide), ?_, ?_, ?_⟩
      · exact (PRep.other HN.out.2.1 mrow 32 hF (by decide) (by decide) (by decide)).mono fun k hk => ⟨hk, by simp [Value.ownBlock]⟩
      · exact HN.out.2.2.2.trans' mrow fun k hk hk2 => by omega
      · exact fun k h => by simp [Value.ownBlock] at h
    · have hn1' : ¬ p.n = 1 := hn1
      have cg2 : w6.cell? ⟨g, 2, none⟩ = some (.slice A6 p.row.length c6) := blk_cell hb6 2
      have cg3 : w6.cell? ⟨g, 3, none⟩ = some (.int .i64 p.place) := blk_cell hb6 3
      have H6 := Lib.hid (And.intro hb6 (And.intro hr6 hw6))
      clear hb6 hr6 hw6
      go_upto_region 21 with fail
      go_quiet (fail)
      obtain ⟨w7, hw7⟩ : ∃ w7, w6.drewN nq = w7 := ⟨_, rfl⟩
      have m7 : Mod (fun _ => False) w6 w7 := hw7 ▸ Mod.drewN _ w6 nq
      rw [hw7]
      clear hw7
      go_upto_if 87 with fail
      go_cut [] (fun wx => PRep wx g (TS S s0 (.slice AA (pass p x hs).1.asks.length cA) (.slice AF (pass p x hs).1.failed.length cF)) (turned { p with waits := (pass p x hs).2 } x) ∧ Rnd wx (s0 + 1) s0 (.slice AA (pass p x hs).1.asks.length cA) (.slice AF (pass p x hs).1.failed.length cF) (pass p x hs).1 ∧ wx.heap[s0]? = some (.cells #[.slice none 0 0, .slice none 0 0, .slice none 0 0] 32 (0, 0)) ∧ Mod S w wx)
      case first =>
        by_cases hpl : p.place = (p.row.length : Int)
        · have hok := HO.out
          have hrl : 0 < p.row.length := by have := hok.rl; have := hok.n1; omega
          obtain ⟨hb6, hr6, hw6⟩ := H6.out
          obtain ⟨gr, cap, hAe, _, _, _⟩ := Kd.R_form hr6 hrl
          have hb7 := (m7.block g (heap_lt hb6) (by simp)).trans hb6
          have R7 : (Kd.int .u8).R 5 w7 0 (fun k => (S k ∧ k < s0) ∧ k ≠ g) (.slice A6 p.row.length c6) p.row := Kd.R_step hr6 fun k _ hl => m7.block k hl (by simp)
          have W7 := Kd.R_step (w1 := w7) hw6 fun k _ hl => m7.block k hl (by simp)
          have RN7 := HN.out.1.below (m7.below (Nat.le_refl _) (by simp))
          have res7 := (m7.block s0 (heap_lt HN.out.2.2.1) (by simp)).trans HN.out.2.2.1
          have M7 := HN.out.2.2.2.trans' m7 (by simp)
          injection hAe with hA1 hA2 hA3
          subst hA1; subst hA3
          have cg2' : w7.cell? ⟨g, 2, none⟩ = some (.slice (some ⟨gr, 0, none⟩) p.row.length c6) := blk_cell hb7 2
          have hrlm : p.row.length ≤ 64 := by have := hok.rl; have := hok.n2; omega
          have H7 := Lib.hid (And.intro hb7 (And.intro R7 (And.intro W7 (And.intro RN7 (And.intro res7 M7)))))
          clear hok hb6 hr6 hw6 hb7 R7 W7 RN7 res7 M7 cg1 cg2 cg3
          go_upto_region 23 with fail
          go_loopg [13] p.row.length (fun k v W => ∃ (i : Nat) (r : List Int), i + 1 = k ∧ i < p.row.length ∧ v = .int .i64 i ∧ r.length = p.row.length ∧ mixRow x i r = mixRow x (p.row.length - 1) p.row ∧
            W.heap[g]? = some (.cells #[.int .u8 p.self, .int .i64 p.n, .slice (some ⟨gr, 0, none⟩) p.row.length c6, .int .i64 p.place, .slice AW (pass p x hs).2.length cW] 78 (0, 0)) ∧
            (Kd.int .u8).R 5 W 0 (fun k => (S k ∧ k < s0) ∧ k ≠ g) (.slice (some ⟨gr, 0, none⟩) r.length c6) r ∧ Mod (fun k => k = gr) w7 W)
          case atStart => exact ⟨p.row.length - 1, p.row, by omega, by omega, by (have : ((p.row.length - 1 : Nat) : Int) = (p.row.length : Int) - 1 := by omega); rw [this], rfl, rfl, H7.out.1, H7.out.2.1, Mod.refl _ _⟩
          case round =>
            obtain ⟨i, r, hik, hi, rfl, hrl2, hmix, hbg, hR, hM⟩ := hrel
            have HI := Lib.hid (And.intro hik (And.intro hmix (And.intro hbg (And.intro hR hM))))
            have cgr : wr.cell? ⟨g, 2, none⟩ = some (.slice (some ⟨gr, 0, none⟩) p.row.length c6) := blk_cell hbg 2
            clear hik hmix hbg hR hM
            cases i with
            | zero =>
              have hz : ¬ (0 : Int) < ((0 : Nat) : Int) := by omega
              have cg3' : wr.cell? ⟨g, 3, none⟩ = some (.int .i64 p.place) := blk_cell HI.out.2.2.1 3
              have fg3' := blk_frozen HI.out.2.2.1 3
              go_wp2_with fail
              go_meet
              obtain ⟨hik, hmix, hbg, hR, hM⟩ := HI.out
              obtain ⟨hb7, R7, W7, RN7, res7, M7⟩ := H7.out
              have ht : turned { p with waits := (pass p x hs).2 } x = { p with waits := (pass p x hs).2, row := r, place := 0 } := by
                unfold turned
                have hm : r = mixRow x (p.row.length - 1) p.row := hmix
                rw [if_pos hpl, hm]
              rw [ht]
              have hgr := R7.1 gr rfl
              have hFg : ∀ k, k = gr → k < s0 := fun k hk => hk ▸ hgr.1.2
              have RN8 := (RN7.low hM (by omega) hFg).far (p := ⟨g, 3, none⟩) hgs (by omega) (.int .i64 0)
              have W8 := Kd.R_step W7 fun k hk hl => hM.block k hl (by have := hgr.1.2; have := hk.1.1; omega)
              rw [hrl2] at hR
              refine ⟨⟨.slice (some ⟨gr, 0, none⟩) p.row.length c6, .slice AW (pass p x hs).2.length cW, by simpa using blk_set hbg 3 (.int .i64 0), .inl ⟨HP.out.mem, hgs⟩, ?_, ?_⟩, RN8, ?_, ?_⟩
              · exact Kd.R_far (Kd.R_mono hR fun k hk => ⟨.inl hk.1, hk.2⟩) (fun k hk => hk.2) _
              · refine Kd.R_far (Kd.R_mono W8 fun k hk => ⟨.inr hk, by have := hk.1.1; omega, fun e => ?_⟩) (fun k hk => hk.2.1) _
                have : k = gr := by injection e
                have := hgr.1.2; have := hk.1.1; omega
              · exact blk_far ((hM.block s0 (heap_lt res7) (by have := hgr.1.2; omega)).trans res7) (by show s0 ≠ g; omega) _
              · exact (M7.trans' hM fun k _ hk => hk ▸ hgr.1.1).set HP.out.mem _
            | succ m =>
              have hz : (0 : Int) < ((m + 1 : Nat) : Int) := by omega
              have hz2 : ((m + 1 : Nat) : Int) < 64 := by omega
              have hz3 : ((m + 1 : Nat) : Int) < (p.row.length : Int) := by omega
              obtain ⟨tw, ht0⟩ := two_some x ((m + 1 : Nat) : Int)
              have j0 : 0 ≤ Int.tmod (two x ((m + 1 : Nat) : Int)) (((m + 1 : Nat) : Int) + 1) := Int.tmod_nonneg _ ht0
              have j1 : Int.tmod (two x ((m + 1 : Nat) : Int)) (((m + 1 : Nat) : Int) + 1) < ((m + 1 : Nat) : Int) + 1 := Int.tmod_lt_of_pos _ (by omega)
              have jr : (two x ((m + 1 : Nat) : Int)) % ((m + 2 : Nat) : Int) = Int.tmod (two x ((m + 1 : Nat) : Int)) (((m + 1 : Nat) : Int) + 1) := by
                rw [Int.tmod_eq_emod_of_nonneg ht0]; rfl
              have HI2 := Lib.hid (And.intro tw jr)
              clear tw jr ht0
              generalize hii : ((m + 1 : Nat) : Int) = ii at *
              have HII := Lib.hid hii
              clear hii
              go_upto_region 26 with (go_at_call 24; refine (mix_Two.calls x ii _ _ HI2.out.1).mono ?_; rintro e w8 ⟨rfl, ⟨q8, rfl⟩⟩)
              generalize hjj : Int.tmod (two x ii) (ii + 1) = jj at *
              have HJJ := Lib.hid hjj
              clear hjj
              obtain ⟨hik, hmix, hbg, hR, hM⟩ := HI.out
              have hb8 : (wr.drewN q8).heap[g]? = _ := hbg
              have R8 := Kd.R_drewN hR q8
              have M8 := hM.drN q8
              rw [hrl2] at R8
              generalize wr.drewN q8 = w8 at *
              have cg8 : w8.cell? ⟨g, 2, none⟩ = some (.slice (some ⟨gr, 0, none⟩) p.row.length c6) := blk_cell hb8 2
              rw [← hrl2] at R8
              have ci := Kd.R_cell (0 : Int) R8 ii (by omega) (by omega)
              have cj := Kd.R_cell (0 : Int) R8 jj (by omega) (by omega)
              obtain ⟨ci, fi⟩ := ci
              obtain ⟨cj, fj⟩ := cj
              have jlt : jj < (p.row.length : Int) := by omega
              have P1 := (Kd.R_put R8 ii (rdOf (0 : Int) r jj)).1
              have P2 := (Kd.R_put R8 jj (rdOf (0 : Int) r ii)).1
              have hl1 : (r.set ii.toNat (rdOf (0 : Int) r jj)).length = r.length := List.length_set
              have hl2 : (r.set jj.toNat (rdOf (0 : Int) r ii)).length = r.length := List.length_set
              rw [← hl1] at P1
              rw [← hl2] at P2
              obtain ⟨ej, fej⟩ := Kd.R_cell (0 : Int) P1 jj (by omega) (by omega)
              obtain ⟨ei, fei⟩ := Kd.R_cell (0 : Int) P2 ii (by omega) (by omega)
              have P3 := (Kd.R_put P1 jj (rdOf (0 : Int) r ii)).1
              rw [hl1] at P3
              have H8 := Lib.hid (And.intro hb8 (And.intro P3 M8))
              clear P1 P2 P3 hl1 hl2
              have HMX := Lib.hid (And.intro hik (And.intro hmix HI2.out.2))
              clear hik hmix hbg hR hM hb8 R8 M8 HI2 cgr HI
              generalize rdOf (0 : Int) (r.set ii.toNat (rdOf (0 : Int) r jj)) jj = cj1 at *
              generalize rdOf (0 : Int) (r.set jj.toNat (rdOf (0 : Int) r ii)) ii = ci1 at *
              generalize hri : rdOf (0 : Int) r ii = ri at *
              generalize hrj : rdOf (0 : Int) r jj = rj at *
              have HRR := Lib.hid (And.intro hri hrj)
              clear hri hrj
              have ii0 : 0 ≤ ii := by omega
              as_aux_lemma =>
                go_region
                go_wp2
                go_roundg (m + 1)
                case measure => have := HMX.out.1; omega
                case rel =>
                  obtain ⟨hik, hmix, hjr⟩ := HMX.out
                  obtain ⟨hb8, P3, M8⟩ := H8.out
                  have hgr := H7.out.2.1.1 gr rfl
                  have hii := HII.out
                  obtain ⟨hri, hrj⟩ := HRR.out
                  refine ⟨m, (r.set ii.toNat rj).set jj.toNat ri, rfl, by omega, by (have : (m : Int) = ii - 1 := by omega); rw [this], by simpa using hrl2, ?_, ?_, ?_, ?_⟩
                  · rw [← hmix]
                    show mixRow x m _ = mixRow x m (swp r (m + 1) ((two x ((m + 1 : Nat) : Int)) % ((m + 2 : Nat) : Int)).toNat)
                    rw [hii, hjr]
                    unfold swp
                    rw [← hri, ← hrj]
                    have : ii.toNat = m + 1 := by omega
                    unfold rdOf
                    rw [this]
                  · exact blk_far (blk_far hb8 (by show g ≠ gr; exact fun e => hgr.2 e.symm) _) (by show g ≠ gr; exact fun e => hgr.2 e.symm) _
                  · rw [List.length_set, List.length_set]
                    exact Kd.R_drew P3
                  · exact ((M8.set (p := ⟨gr, ii.toNat, none⟩) rfl _).set (p := ⟨gr, jj.toNat, none⟩) rfl _).dr
        · go_wp2_with fail
          go_meet
          have ht : turned { p with waits := (pass p x hs).2 } x = { p with waits := (pass p x hs).2 } := by unfold turned; rw [if_neg hpl]
          rw [ht]
          exact ⟨HN.out.2.1.mod m7 (by simp), HN.out.1.below (m7.below (Nat.le_refl _) (by simp)), (m7.block s0 (heap_lt HN.out.2.2.1) (by simp)).trans HN.out.2.2.1, HN.out.2.2.2.trans' m7 (by simp)⟩
      case rest =>
        clear H6 H66 m7 cg1 cg2 cg3
        obtain ⟨PP, RN, res, MM⟩ := hcut
        have HX := Lib.hid (And.intro PP (And.intro RN (And.intro res MM)))
        have hok := HO.out
        have hpl := turned_place { p with waits := (pass p x hs).2 } x hok.pl0 hok.pl1 (by have := hok.rl; have := hok.n1; show 0 < p.row.length; omega)
        have hrw := turned_row { p with waits := (pass p x hs).2 } x
        have hwt := turned_waits { p with waits := (pass p x hs).2 } x
        obtain ⟨q, hq⟩ : ∃ q, turned { p with waits := (pass p x hs).2 } x = q := ⟨_, rfl⟩
        rw [hq] at hpl hrw hwt HX PP
        have HQ := Lib.hid (And.intro hq (And.intro hrw hwt))
        clear hq hrw hwt hok RN res MM
        obtain ⟨hpl0, hpl1⟩ := hpl
        obtain ⟨vr8, vw8, hb8, _, hr8, hw8⟩ := PP
        obtain ⟨A8, c8, rfl⟩ := Kd.R_slice hr8
        have d2 : wc.cell? ⟨g, 2, none⟩ = some (.slice A8 q.row.length c8) := blk_cell hb8 2
        have d3 : wc.cell? ⟨g, 3, none⟩ = some (.int .i64 q.place) := blk_cell hb8 3
        obtain ⟨_, _, C8⟩ := Kd.R_reads' hr8
        obtain ⟨ad8, hA8, ct⟩ := Kd.at_int C8 q.place hpl0 hpl1
        subst hA8
        have H8 := Lib.hid (And.intro hb8 (And.intro hr8 hw8))
        clear hb8 hr8 hw8 C8
        obtain ⟨pt, ot, hadt⟩ : ∃ b o, ad8.add q.place.toNat = ⟨b, o, none⟩ := by
          generalize ad8.add q.place.toNat = q at ct
          obtain ⟨b, o, s⟩ := q
          cases s with
          | none => exact ⟨b, o, rfl⟩
          | some s => unfold World.cell? at ct; dsimp only at ct; split at ct <;> simp at ct
        rw [hadt] at ct
        have lg : g < wc.heap.size := World.block_lt_of_cell? wc _ d2
        have lt8 : pt < wc.heap.size := World.block_lt_of_cell? wc _ ct
        go_upto_region 28 with fail
        go_region
        have b9 : Below wc.heap.size wc (wc.alloc (.cells #[.int .u8 (YtjhmkmcongjngaaW.PrintWords.rd q.row q.place)] 5)).drew := ((Below.refl _ _).alloc (Nat.le_refl _) _).drew
        have ht9 : (wc.alloc (.cells #[.int .u8 (YtjhmkmcongjngaaW.PrintWords.rd q.row q.place)] 5)).drew.heap[wc.heap.size]? = some (.cells #[.int .u8 (YtjhmkmcongjngaaW.PrintWords.rd q.row q.place)] 5 (0, 0)) := heap_alloc_new wc _
        generalize (wc.alloc (.cells #[.int .u8 (YtjhmkmcongjngaaW.PrintWords.rd q.row q.place)] 5)).drew = w9 at *
        obtain ⟨hb8, hr8, hw8⟩ := H8.out
        have hb9 := (b9.block g lg).trans hb8
        have d93 : w9.cell? ⟨g, 3, none⟩ = some (.int .i64 q.place) := blk_cell hb9 3
        have f93 := blk_frozen hb9 3
        have P9 := PRep.putPlace (HX.out.1.below b9) (q.place + 1)
        have hsr := heap_lt HX.out.2.1.blk
        have N9 := (HX.out.2.1.below b9).far (p := ⟨g, 3, none⟩) hgs (by omega) (.int .i64 (q.place + 1))
        have res9 := blk_far ((b9.block s0 (by omega)).trans HX.out.2.2.1) (p := ⟨g, 3, none⟩) (by show s0 ≠ g; omega) (.int .i64 (q.place + 1))
        have M9 := (HX.out.2.2.2.trans' (Mod.of_below (S := S) b9) (fun k _ h => h)).set (p := ⟨g, 3, none⟩) HP.out.mem (.int .i64 (q.place + 1))
        have ht10 := blk_far ht9 (p := ⟨g, 3, none⟩) (by show wc.heap.size ≠ g; omega) (.int .i64 (q.place + 1))
        have hpm : q.place + 1 < 9223372036854775808 := by have h1 := HQ.out.2.1; have h2 := HO.out.rl; have h3 := HO.out.n2; have h4 : q.row.length = p.row.length := h1; omega
        have H10 := Lib.hid (And.intro P9 (And.intro N9 (And.intro res9 (And.intro M9 ht10))))
        clear hb8 hr8 hw8 hb9 P9 N9 res9 M9 ht10 ht9 ct hadt d2 d3 lt8 b9
        go_upto_region 30 with fail
        generalize w9.setCell ⟨g, 3, none⟩ (.int .i64 (q.place + 1)) = w10 at *
        generalize htt : YtjhmkmcongjngaaW.PrintWords.rd q.row q.place = t at *
        have HTT := Lib.hid htt
        clear htt
        generalize wc.heap.size = tb at *
        have cr0 : w10.cell? ⟨s0 + 1, 0, none⟩ = some (.slice none 0 0) := blk_cell H10.out.2.1.blk 0
        have ctb : w10.cell? ⟨tb, 0, none⟩ = some (.int .u8 t) := blk_cell H10.out.2.2.2.2 0
        clear d93 f93
        go_wp2_with (at_builtin; go_loud (refine wpList_app1 (Kd.int .u8) rfl _ _ 28 5 (.int .u8 0) 1 rfl Try.underlying28 info5 rfl (by decide) (by decide) (.slice none 0 0) ([] : List Int) t [.int .u8 t] (fun k => False) rfl rfl rfl (Kd.R_nil _ _ _ _ _) (by decide) ?_))
        intro A5 c5 w11 R11 m11 ho11
        have HPF : Hid (∀ (k : Nat), (Value.slice A5 ([] ++ [t]).length c5).ownBlock = some k → (Value.slice AF (pass p x hs).1.failed.length cF).ownBlock ≠ some k) := Lib.hid (fun k e e2 => absurd (R11.1 k e) (Nat.not_le_of_lt (Kd.R_lt H10.out.2.1.F k e2)))
        have m11' : Mod (fun _ => False) w10 w11 := m11.mono fun k _ h => by cases h
        have b11 : Below w10.heap.size w10 w11 := m11'.below (Nat.le_refl _) (by simp)
        have N11 := H10.out.2.1.below b11
        have P11 := (H10.out.1.bound.mono (S' := TE S s0 (.slice A5 1 c5) (.slice AA (pass p x hs).1.asks.length cA) (.slice AF (pass p x hs).1.failed.length cF)) fun k hk => ⟨hk.1, fun e => by have := R11.1 k e.symm; omega⟩).below b11
        have res11 := (b11.block s0 (heap_lt H10.out.2.2.1)).trans H10.out.2.2.1
        have M11 := H10.out.2.2.2.1.trans' (Mod.of_below (S := S) b11) (fun k _ h => h)
        have ht11 := (b11.block tb (heap_lt H10.out.2.2.2.2)).trans H10.out.2.2.2.2
        have cr11 : w11.cell? ⟨s0 + 1, 0, none⟩ = some (.slice none 0 0) := blk_cell N11.blk 0
        have fr11 := blk_frozen N11.blk 0
        have hsz10 := heap_lt H10.out.2.1.blk
        have H11 := Lib.hid (And.intro P11 (And.intro N11 (And.intro res11 (And.intro M11 (And.intro ht11 R11)))))
        clear m11 ho11 m11' b11 P11 N11 res11 M11 ht11 R11 cr0 ctb
        go_upto_region 31 with fail
        obtain ⟨P11, N11, res11, M11, ht11, R11⟩ := H11.out
        have m12 : Mod (fun k => k = s0 + 1) w11 (w11.setCell ⟨s0 + 1, 0, none⟩ (.slice A5 1 c5)) := Mod.setCell (S := fun k => k = s0 + 1) rfl _
        have h12 : ∀ k, k = s0 + 1 → ∃ cells, w11.heap[k]? = some (.cells cells 32 (0, 0)) := fun k hk => ⟨_, hk ▸ N11.blk⟩
        have P12 := P11.other m12 32 h12 (by decide) (by decide) (by decide)
        have A12 := R_other N11.A m12 32 h12 (by decide)
        have F12 := R_other N11.F m12 32 h12 (by decide)
        have R12 := R_other R11 m12 32 h12 (by decide)
        have r12 : (w11.setCell ⟨s0 + 1, 0, none⟩ (.slice A5 1 c5)).heap[s0 + 1]? = some (.cells #[.slice A5 1 c5, .slice AA (pass p x hs).1.asks.length cA, .slice AF (pass p x hs).1.failed.length cF] 32 (0, 0)) := by simpa using blk_set N11.blk 0 (.slice A5 1 c5)
        have res12 := (m12.block s0 (heap_lt res11) (by omega)).trans res11
        have M12 := M11.trans' (m12.mono (S' := fun k => k = s0 + 1) fun k _ h => h) (fun k hk h => by omega)
        have ht12 := (m12.block tb (heap_lt ht11) (by omega)).trans ht11
        generalize w11.setCell ⟨s0 + 1, 0, none⟩ (.slice A5 1 c5) = w12 at *
        have HY := Lib.hid (And.intro P12 (And.intro A12 (And.intro F12 (And.intro R12 (And.intro r12 (And.intro res12 (And.intro M12 ht12)))))))
        obtain ⟨vr, vw, hb12, _, hr12, hw12⟩ := P12
        obtain ⟨A14, c14, rfl⟩ := Kd.R_slice hw12
        obtain ⟨_, _, C12⟩ := Kd.R_reads' hw12
        have e4 : w12.cell? ⟨g, 4, none⟩ = some (.slice A14 q.waits.length c14) := blk_cell hb12 4
        have et : w12.cell? ⟨tb, 0, none⟩ = some (.int .u8 t) := blk_cell ht12 0
        have HK := Lib.hid (containsFunc_c 26 (.pointer (some ⟨tb, 0, none⟩)) (fun x => x.f0 == t) q.waits A14 c14 w12 (says26 et) enters26 C12)
        have HB := Lib.hid (And.intro hb12 (And.intro hr12 hw12))
        clear A12 F12 R12 r12 res12 M12 ht12 P11 N11 res11 M11 ht11 R11 m12 h12 hb12 hr12 hw12 C12 H11 cr11 fr11
        go_wp2_with fail
        refine HK.out.mono ?_
        rintro e w13 ⟨rfl, b13⟩
        have e4' := (b13.cell (World.block_lt_of_cell? w12 _ e4)).trans e4
        have et' := (b13.cell (World.block_lt_of_cell? w12 _ et)).trans et
        have f4' : w13.frozen? ⟨g, 4, none⟩ = false := blk_frozen ((b13.block g (heap_lt HB.out.1)).trans HB.out.1) 4
        have hsz12 := heap_lt HY.out.2.2.2.2.2.2.2
        obtain ⟨hrn0, hA0⟩ : (pass p x hs).1.pings = [] ∧ s0 ≤ w10.heap.size := ⟨hrn, by omega⟩
        have F13 : Fin w w13 g s0 S (TE S s0 (.slice A5 1 c5) (.slice AA (pass p x hs).1.asks.length cA) (.slice AF (pass p x hs).1.failed.length cF)) (.slice A5 1 c5) (.slice AA (pass p x hs).1.asks.length cA) (.slice AF (pass p x hs).1.failed.length cF) { (pass p x hs).1 with pings := [t] } { q with place := q.place + 1 } := by
          obtain ⟨h1, h2, h3, h4, h5, h6, h7, h8⟩ := HY.out
          exact Fin.below ⟨h1, h5, Kd.R_mono h4 (fun k hk => by omega), h2, h3, h6, h7, HPF.out⟩ b13
        have HB13 := Lib.hid (And.intro ((b13.block g (heap_lt HB.out.1)).trans HB.out.1) (And.intro (Kd.R_below HB.out.2.1 b13) (Kd.R_below HB.out.2.2 b13)))
        have HF := Lib.hid F13
        have htb13 := (b13.block tb hsz12).trans HY.out.2.2.2.2.2.2.2
        have hgtb : g ≠ tb := blk_ne HB13.out.1 htb13 (by decide)
        have hgl13 : g < w13.heap.size := heap_lt HB13.out.1
        have htl13 : tb < w13.heap.size := heap_lt htb13
        have HTB := Lib.hid htb13
        clear F13 HY HB HK e4 et b13 hsz12 htb13
        generalize hany : (q.waits.any fun x => x.f0 == t) = an at *
        have HAN := Lib.hid hany
        clear hany
        go_upto_if 164 with fail
        go_cut [] (fun wx => Fin w wx g s0 S (TE S s0 (.slice A5 1 c5) (.slice AA (pass p x hs).1.asks.length cA) (.slice AF (pass p x hs).1.failed.length cF)) (.slice A5 1 c5) (.slice AA (pass p x hs).1.asks.length cA) (.slice AF (pass p x hs).1.failed.length cF) { (pass p x hs).1 with pings := [t] } { q with place := q.place + 1, waits := if an then q.waits else q.waits ++ [⟨t, 0⟩] })
        case first =>
          cases an with
          | true =>
            go_wp2_with fail
            go_meet
            have h := HF.out
            exact ⟨h.P, h.blk, h.p, h.a, h.f, h.res, h.M, h.d⟩
          | false =>
            go_wp2_with fail
            have hwl : (q.waits.length + 1) * 16 ≤ 140737488355328 := by
              have h1 : q.waits = (pass p x hs).2 := HQ.out.2.2.1
              have h2 := pass_len p x hs
              have h3 := HO.out.wl
              rw [h1]; omega
            have hrw : k82.R 82 w13 0 _ (.slice A14 q.waits.length c14) q.waits := HB13.out.2.2
            go_region_law
              ((refine step_app1 (W := w13) k82 (by rfl) _ _ 76 82 (.agg #[(.int .u8 0), (.int .i64 0)]) 16 rfl Try.underlying76 info82 rfl (by decide) (by decide) (.slice A14 q.waits.length c14) q.waits ⟨t, 0⟩ [.int .u8 t, .int .i64 0] _ rfl rfl (k82_mkM _ _ _ _) hrw hwl ?_; intro A15 c15 w15 R15 m15 ho15; have hb15 := (m15.block g hgl13 (fun e => (hrw.1 g e).2.1 rfl)).trans HB13.out.1; have e15 : w15.cell? ⟨g, 4, none⟩ = some (.slice A14 q.waits.length c14) := blk_cell hb15 4; have f15 := blk_frozen hb15 4; have t15 : w15.cell? ⟨tb, 0, none⟩ = some (.int .u8 t) := blk_cell (blk_other hrw m15 HTB.out (by decide)) 0; clear hb15))
            all_goals
              go_wp2_with fail
              go_meet
              rw [List.length_append] at R15
              exact Fin.grow hs0 hgs HP.out.mem HF.out HB13.out.1 HB13.out.2.1 hrw m15 (by rw [if_neg (by decide)]; exact R15)
        case rest =>
          have h := hcut
          have hr32 := h.blk
          have hres := h.res
          clear HB13 h
          go_upto_region 33 with fail
          go_step
          refine wpList_load_row rfl 32 _ rfl (s0 + 1) rfl 32 _ (0, 0) _ hr32 Try.underlying32 rfl size32 ?_
          refine wpList_store_row rfl 32 _ _ rfl s0 _ rfl rfl 32 _ hres size32 rfl (by simp [Value.oneCell']) ?_
          have hrow := setRow_heap wc s0 _ #[.slice A5 1 c5, .slice AA (pass p x hs).1.asks.length cA, .slice AF (pass p x hs).1.failed.length cF] 32 _ hres
          have mrow : Mod (fun k => k = s0) wc (wc.setRow s0 #[.slice A5 1 c5, .slice AA (pass p x hs).1.asks.length cA, .slice AF (pass p x hs).1.failed.length cF]) := ⟨by simp, by simp, by simp, by simp, fun k _ hk => setRow_other wc s0 k _ hk⟩
          have HT := Lib.hid (fun ht => Fin.ends hs0 hcut mrow p x hs ht)
          clear hcut HF mrow
          generalize wc.setRow _ _ = w17 at *
          go_wp2
          refine bodyPost_ret (results_cell_row rfl _ _ s0 32 _ (0, 0) _ rfl hrow Try.underlying32 rfl size32) rfl ?_
          refine HT.out ?_
          have hq2 := HQ.out.1
          unfold tickF
          simp only
          rw [if_neg hn1', hq2]
          unfold pinged
          have e : q.row.getD q.place.toNat 0 = t := HTT.out
          simp only [e, HAN.out, hrn, List.nil_append]
end Go.Proofs.Ytjhmkmcongjngaa
