/- ProbePlays: any row of calls of any node's probe is answered as the document says. -/
import Derived.Test.YtjhmkmcongjngaaRF
import Derived.Test.YtjhmkmcongjngaaQPt
set_option linter.unusedVariables false
set_option linter.unusedSimpArgs false
namespace Go.Proofs.Ytjhmkmcongjngaa
open Go.RowKit Go.Tat Go.Proofs.YtjhmkmcongjngaaW.PrintWords PProbePlays
theorem slc_cap {α : Type} {d : Kd α} {e : Nat} {A : Option Addr} {n c : Nat} {w : World} {xs : List α} (h : (slc d e (.slice A n c) xs).holds w) : xs.length ≤ c := by
  obtain ⟨A', c', hv, hc, _⟩ := Kd.R_reads h.1
  cases hv
  exact hc
set_option maxRecDepth 100000 in
theorem plays_bad (s n : Int) (hs : 0 ≤ s ∧ s < 256) (h : n < 1 ∨ 64 < n ∨ n ≤ s) (ops : List S43) (A : Option Addr) (c : Nat) (W : World) :
    Calls Try.prog 4 #[.int .u8 s, .int .i64 n, .slice A ops.length c] W fun e w' => e = .returned (.bool true) ∧ Below W.heap.size W w' := by
  have HN := Lib.hid (new_bad s n hs h W)
  have HR := Lib.hid (rnew_bad2 s n hs h W)
  clear hs h
  go_enter Try.func4, Try.ntmps4
  go_wp2_with fail
  refine HN.out.mono ?_
  rintro e w1 ⟨rfl, rfl⟩
  go_wp2_with fail
  refine HR.out.mono ?_
  rintro e w2 ⟨⟨v, vW, rfl, hv, hw⟩, b2⟩
  have H2 := Lib.hid ((St.nil (fun _ => False) w1).below b2)
  clear HN HR b2
  go_upto_region 3 with (first
    | (refine St.wpAlloc rfl 39 rfl _ _ zero39 rfl H2.out ?_; intro z9 w3 H3)
    | (refine St.wpStoreA rfl 39 _ _ rfl H3.out 0 rfl (pV 0 0 v 0 vW 0) rfl (pV_one hv hw) rfl rfl (by kernel_rfl) ?_; intro w4 H4))
  clear H3 H2 hv hw
  go_wp2_with fail
  refine (fixed_c _).mono ?_
  rintro e w5 ⟨rfl, b5⟩
  have H5 := Lib.hid (H4.out.below b5)
  clear b5 H4
  go_wp2_with fail
  go_ret
  exact ⟨rfl, H5.out.base⟩
set_option maxRecDepth 100000 in
set_option maxHeartbeats 16000000 in
theorem plays_good (s0 n0 : Nat) (h1 : 1 ≤ n0) (h2 : n0 ≤ 64) (hs : s0 < n0) (ops : List S43) (A : Option Addr) (c : Nat) (W : World) (hC : k43.C W A ops.length ops) (hg : ∀ x ∈ ops, g43 x) :
    Calls Try.prog 4 #[.int .u8 s0, .int .i64 n0, .slice A ops.length c] W fun e w' => e = .returned (.bool true) ∧ Below W.heap.size W w' := by
  have hmx := Kd.C_max hC
  have HC := Lib.hid (And.intro hC hg)
  have HNS := Lib.hid (And.intro h1 (And.intro h2 hs))
  have HN := Lib.hid (new_st (St.nil (fun _ => False) W) s0 n0 h1 h2 hs)
  clear hC hg h1 h2 hs
  go_enter Try.func4, Try.ntmps4
  go_wp2_with fail
  refine HN.out.mono ?_
  rintro e w1 ⟨g, S, rfl, S1⟩
  have H1 := Lib.hid (show St (fun _ => False) W w1 [pO g S (newPr s0 n0 n0)] from S1)
  have HR := Lib.hid (rnew_st H1.out s0 n0 HNS.out.1 HNS.out.2.1 HNS.out.2.2)
  clear S1 HN
  go_wp2_with fail
  refine HR.out.mono ?_
  rintro e w2 ⟨vR, vW, rfl, S2⟩
  have HV := Lib.hid (And.intro (R_oneCell (S2.get 1 rfl).1) (R_oneCell (S2.get 2 rfl).1))
  have H2 := Lib.hid (show St (fun _ => False) W w2 [pO g S (newPr s0 n0 n0), slc (Kd.int .u8) 5 vR (oth s0 n0), slc (kW 0) 88 vW []] from S2)
  clear S2 HR H1
  go_upto_region 3 with (first
    | (refine St.wpAlloc rfl 39 rfl _ _ zero39 rfl H2.out ?_; intro z9 w3 H3)
    | (refine St.wpStoreA rfl 39 _ _ rfl H3.out 3 rfl (pV s0 n0 vR 0 vW 0) rfl (pV_one HV.out.1 HV.out.2) rfl rfl (by kernel_rfl) ?_; intro w4 H4))
  obtain ⟨p0, hp0⟩ : ∃ p, newPr s0 n0 n0 = p := ⟨_, rfl⟩
  have HP0 := Lib.hid hp0
  have S5 : St (fun _ => False) W w4 [pO g S p0, blk z9 (pV p0.self p0.n vR p0.place vW (0 : Nat)) 39, slc (Kd.int .u8) 5 vR p0.row, slc (kW (0 : Nat)) 88 vW p0.waits] := by
    subst hp0
    have S4 : St (fun _ => False) W w4 [pO g S (newPr s0 n0 n0), slc (Kd.int .u8) 5 vR (oth s0 n0), slc (kW 0) 88 vW [], blk z9 (pV s0 n0 vR 0 vW 0) 39] := H4.out
    exact S4.perm (.cons _ (List.perm_append_comm (l₁ := [blk z9 (pV s0 n0 vR 0 vW 0) 39]) (l₂ := [slc (Kd.int .u8) 5 vR (oth s0 n0), slc (kW 0) 88 vW []])))
  have HK0 := Lib.hid (show Okay p0 ∧ (∀ h ∈ p0.row, 0 ≤ h ∧ h < 256) ∧ p0.waits.length = 0 by
    subst hp0
    exact ⟨new_okay HNS.out.1 HNS.out.2.1 HNS.out.2.2, oth_wf HNS.out.2.1, rfl⟩)
  have H5 := Lib.hid S5
  clear S5 hp0 H2 H3 H4 HV HP0
  go_wp2_with fail
  refine (fixed_c _).mono ?_
  rintro e w5 ⟨rfl, b5⟩
  have H6 := Lib.hid (H5.out.below b5)
  clear b5 H5
  go_wp2_with fail
  go_loopg [45] (ops.length + 1) (fun m v45 wx => ∃ (j T : Nat) (p : Pr) (S : Nat → Prop) (vR vW : Value), v45 = .int .i64 j ∧ ops.length - j < m ∧ j ≤ ops.length ∧ j ≤ 151 ∧ T ≤ j ∧ p.waits.length ≤ j ∧ Okay p ∧ (∀ h ∈ p.row, 0 ≤ h ∧ h < 256) ∧ St (fun _ => False) W wx [pO g S p, blk z9 (pV p.self p.n vR p.place vW T) 39, slc (Kd.int .u8) 5 vR p.row, slc (kW T) 88 vW p.waits])
  case atStart => exact ⟨0, 0, p0, S, vR, vW, rfl, by omega, by omega, by omega, by omega, by rw [HK0.out.2.2]; exact Nat.le_refl _, HK0.out.1, HK0.out.2.1, H6.out⟩
  case round =>
    clear H6 HK0
    obtain ⟨j, T, p, S, vR, vW, rfl, hjm, hj, hj2, hT, hwl, hok, hrw, S7⟩ := hrel
    obtain ⟨s, n, row, pl, ws⟩ := p
    obtain ⟨AR, cR, rfl⟩ := Kd.R_slice (S7.get 2 rfl).1
    obtain ⟨AW, cW, rfl⟩ := Kd.R_slice (S7.get 3 rfl).1
    have H7 := Lib.hid S7
    have HK := Lib.hid (And.intro hok hrw)
    dsimp only at H7 hwl
    have HJ := Lib.hid (And.intro hjm (And.intro hj (And.intro hj2 (And.intro hT hwl))))
    clear S7 hok hrw hwl hT hjm
    by_cases hjl : j < ops.length
    · have hjl' : (j : Int) < (ops.length : Int) := by omega
      have hj0 : (0 : Int) ≤ (j : Int) := by omega
      obtain ⟨x, hx⟩ : ∃ x, ops[j]? = some x := ⟨_, List.getElem?_eq_getElem hjl⟩
      have hgx := HC.out.2 x (List.mem_of_getElem? hx)
      obtain ⟨ad, b, o, cs, rfl, had, hb, hK, hcs⟩ := C_at HC.out.1 hx (by decide)
      obtain ⟨xk, xx, xh, xn⟩ := x
      obtain ⟨A2, c2, rfl, hc2, hC2⟩ := k43_open hK
      obtain ⟨hg1, hg2, hg3, hg4⟩ := hgx
      dsimp only at hc2 hC2 hg1 hg2 hg3 hg4 hcs
      have hBw := H7.out.base
      have c0 := (hBw.cell (p := ⟨b, o, none⟩) hb).trans (hcs 0 _ rfl)
      have c1 := (hBw.cell (p := ⟨b, o + 1, none⟩) hb).trans (hcs 1 _ rfl)
      have c2' := (hBw.cell (p := ⟨b, o + 2, none⟩) hb).trans (hcs 2 _ rfl)
      have c3 := (hBw.cell (p := ⟨b, o + 3, none⟩) hb).trans (hcs 3 _ rfl)
      have had' : ad.add (j * 4) = ⟨b, o, none⟩ := had
      have HX := Lib.hid (And.intro hc2 (And.intro hC2 (And.intro hg1 (And.intro hg2 (And.intro hg3 hg4)))))
      have hhm := Kd.C_max hC2
      clear hc2 hC2 hg1 hg2 hg3 hg4 hK hcs had hx hBw
      go_upto_region 10 with fail
      have S8 := H7.out.new' #[.int .i64 xk, .int .u64 xx, .slice A2 xh.length c2, .int .u8 xn] 43 wr.heap.size rfl
      generalize wr.heap.size = z at *
      generalize World.alloc _ _ = w8 at *
      have d0 : w8.cell? ⟨z, 0, none⟩ = some (.int .i64 xk) := S8.cell 4 rfl 0
      have d1 : w8.cell? ⟨z, 1, none⟩ = some (.int .u64 xx) := S8.cell 4 rfl 1
      have d2 : w8.cell? ⟨z, 2, none⟩ = some (.slice A2 xh.length c2) := S8.cell 4 rfl 2
      have d3 : w8.cell? ⟨z, 3, none⟩ = some (.int .u8 xn) := S8.cell 4 rfl 3
      have H8 := Lib.hid S8
      clear S8 H7 c0 c1 c2' c3 had'
      by_cases hb1 : (150 : Int) < (j : Int)
      · go_wp2_with fail
        go_ret
        exact ⟨rfl, H8.out.base⟩
      · by_cases hb2 : (100 : Int) < (xh.length : Int)
        · go_wp2_with fail
          go_ret
          exact ⟨rfl, H8.out.base⟩
        · have HB := Lib.hid (And.intro hb1 hb2)
          by_cases hk0 : xk = 0
          · subst hk0
            go_upto_region 13 with (refine St.wpAlloc rfl 32 rfl _ _ zero32 rfl H8.out ?_; intro z13 w9 H9)
            clear d0 d1 d2 d3
            have e0 : w9.cell? ⟨z9, 0, none⟩ = some (.int .u8 s) := H9.out.cell 1 rfl 0
            have e1 : w9.cell? ⟨z9, 1, none⟩ = some (.int .i64 n) := H9.out.cell 1 rfl 1
            have e2 : w9.cell? ⟨z9, 2, none⟩ = some (.slice AR row.length cR) := H9.out.cell 1 rfl 2
            have e3 : w9.cell? ⟨z9, 3, none⟩ = some (.int .i64 pl) := H9.out.cell 1 rfl 3
            have e4 : w9.cell? ⟨z9, 4, none⟩ = some (.slice AW ws.length cW) := H9.out.cell 1 rfl 4
            have e5 : w9.cell? ⟨z9, 5, none⟩ = some (.int .i64 T) := H9.out.cell 1 rfl 5
            have d1 : w9.cell? ⟨z, 1, none⟩ = some (.int .u64 xx) := H9.out.cell 4 rfl 1
            have d2 : w9.cell? ⟨z, 2, none⟩ = some (.slice A2 xh.length c2) := H9.out.cell 4 rfl 2
            have HXX := Lib.hid (show 0 ≤ xx ∧ xx < 18446744073709551616 from ⟨u64_wf HX.out.2.2.2.1, u64_top HX.out.2.2.2.1⟩)
            have HXH := Lib.hid (show (∀ h ∈ xh, 0 ≤ h ∧ h < 256) ∧ xh.length ≤ 100 from ⟨fun y hy => u8_wf (HX.out.2.2.2.2.1 y hy), by omega⟩)
            have HT := Lib.hid (rtick_c s n pl T ((T + 1 : Nat) : Int) (by have := HJ.out.2.2.2.1; unfold wrap64; omega) (by omega) (by have := HJ.out.2.2.2.1; omega) row AR cR HK.out.2 HK.out.1.rl ⟨HK.out.1.n1, HK.out.1.n2⟩ ⟨HK.out.1.pl0, HK.out.1.pl1⟩ ws (fun u hu => by have := HK.out.1.wf u hu; omega) (by have := HJ.out.2.2.2.2; omega) xx HXX.out xh HXH.out.1 (by have := HXH.out.2; omega) AW cW A2 c2 w9 (Kd.R_reads' (H9.out.get 2 rfl).1).2.2 (slc_cap (H9.out.get 2 rfl)) (Kd.R_reads' (H9.out.get 3 rfl).1).2.2 (Kd.C_below HX.out.2.1 H9.out.base) HX.out.1)
            obtain ⟨rd, hrd⟩ : ∃ rd, (tickF ⟨s, n, row, pl, ws⟩ xx xh).1 = rd := ⟨_, rfl⟩
            obtain ⟨q, hq⟩ : ∃ q, (tickF ⟨s, n, row, pl, ws⟩ xx xh).2 = q := ⟨_, rfl⟩
            have HQ := Lib.hid (show q.self = s ∧ q.n = n ∧ (∀ h ∈ q.row, 0 ≤ h ∧ h < 256) ∧ Okay q ∧ q.waits.length ≤ ws.length + 1 ∧ rd.asks.length ≤ 2 * ws.length by
              have h1 := tick_keeps ⟨s, n, row, pl, ws⟩ xx xh HK.out.2
              have h2 := tick_okay HK.out.1 (by have := HJ.out.2.2.2.2; show ws.length + 1 ≤ 1000000; omega) xx xh
              have h3 := asks_len ⟨s, n, row, pl, ws⟩ xx xh
              rw [hq] at h1 h2
              rw [hrd] at h3
              exact ⟨h1.1, h1.2.1, h1.2.2, h2.1, h2.2, h3⟩)
            have HRQ := Lib.hid (And.intro hrd hq)
            unfold rtickPost at HT
            rw [hrd, hq] at HT
            unfold pV at HT
            dsimp only at HT
            clear hrd hq H8
            go_wp2_with fail
            refine HT.out.mono ?_
            rintro e w10 ⟨vP, vA, vF, vR', vW', rfl, hor⟩
            have S10 : St (fun _ => False) W w10 [pO g S ⟨s, n, row, pl, ws⟩, blk z9 (pV s n (.slice AR row.length cR) pl (.slice AW ws.length cW) T) 39, slc (Kd.int .u8) 5 vR' q.row, blk z #[.int .i64 0, .int .u64 xx, .slice A2 xh.length c2, .int .u8 xn] 43, blk z13 Z32 32, slc k80 80 vA rd.asks, slc (Kd.int .u8) 5 vF rd.failed, slc (kW ((T + 1 : Nat) : Int)) 88 vW' q.waits, slc (Kd.int .u8) 5 vP rd.pings] := by
              rcases hor with ⟨rfl, hrow, S9⟩ | S9
              · rw [hrow]
                exact (H9.out.adds S9).drop 3
              · have S9' : St (fun _ => False) W w10 [pO g S ⟨s, n, row, pl, ws⟩, blk z9 (pV s n (.slice AR row.length cR) pl (.slice AW ws.length cW) T) 39, blk z #[.int .i64 0, .int .u64 xx, .slice A2 xh.length c2, .int .u8 xn] 43, blk z13 Z32 32, slc k80 80 vA rd.asks, slc (Kd.int .u8) 5 vF rd.failed, slc (kW ((T + 1 : Nat) : Int)) 88 vW' q.waits, slc (Kd.int .u8) 5 vP rd.pings, slc (Kd.int .u8) 5 vR' q.row] := ((H9.out.adds S9).drop 2).drop 2
                exact S9'.perm (.cons _ (.cons _ (List.Perm.symm (List.perm_append_singleton (slc (Kd.int .u8) 5 vR' q.row) [blk z #[.int .i64 0, .int .u64 xx, .slice A2 xh.length c2, .int .u8 xn] 43, blk z13 Z32 32, slc k80 80 vA rd.asks, slc (Kd.int .u8) 5 vF rd.failed, slc (kW ((T + 1 : Nat) : Int)) 88 vW' q.waits, slc (Kd.int .u8) 5 vP rd.pings]))))
            have HO1 := Lib.hid (one3 (R_oneCell (S10.get 8 rfl).1) (R_oneCell (S10.get 5 rfl).1) (R_oneCell (S10.get 6 rfl).1))
            have HO2 := Lib.hid (pV_one (s := s) (n := n) (pl := q.place) (T := ((T + 1 : Nat) : Int)) (R_oneCell (S10.get 2 rfl).1) (R_oneCell (S10.get 7 rfl).1))
            have H10 := Lib.hid S10
            clear S10 hor HT H9 e0 e1 e2 e3 e4 e5 d1 d2
            go_upto_region 14 with (first
              | (refine St.wpStoreA rfl 32 _ _ rfl H10.out 4 rfl #[vP, vA, vF] rfl HO1.out rfl rfl (by kernel_rfl) ?_; intro w11 H11)
              | (refine St.wpStoreA rfl 39 _ _ rfl H11.out 1 rfl (pV s n vR' q.place vW' ((T + 1 : Nat) : Int)) rfl HO2.out rfl rfl (by kernel_rfl) ?_; intro w12 H12))
            clear H10 H11 HO1 HO2
            have HS12 := Lib.hid (show St (fun _ => False) W w12 [pO g S ⟨s, n, row, pl, ws⟩, blk z9 (pV s n vR' q.place vW' ((T + 1 : Nat) : Int)) 39, slc (Kd.int .u8) 5 vR' q.row, blk z #[.int .i64 0, .int .u64 xx, .slice A2 xh.length c2, .int .u8 xn] 43, blk z13 #[vP, vA, vF] 32, slc k80 80 vA rd.asks, slc (Kd.int .u8) 5 vF rd.failed, slc (kW ((T + 1 : Nat) : Int)) 88 vW' q.waits, slc (Kd.int .u8) 5 vP rd.pings] from H12.out)
            clear H12
            have hgW : W.heap.size ≤ g := HS12.out.ge 0 rfl (HS12.out.get 0 rfl).1.mem
            have HTK := Lib.hid (tick_st HS12.out.drew 0 rfl HK.out.1 xx A2 c2 xh HXX.out.1 (Kd.C_below HX.out.2.1 HS12.out.drew.base) HX.out.1 (by have := HXH.out.2; omega) HXH.out.1 (fun ad h hp => by subst h; have := C_block HX.out.2.1 hp (by decide); omega))
            unfold tickSt at HTK
            rw [HRQ.out.1, HRQ.out.2] at HTK
            refine wp_region_held_drew (S := (fun w' => w'.cell? ⟨z, 1, none⟩ = some (.int .u64 xx) ∧ w'.cell? ⟨z, 2, none⟩ = some (.slice A2 xh.length c2) ∧ w'.cell? ⟨z13, 0, none⟩ = some vP ∧ w'.cell? ⟨z13, 1, none⟩ = some vA ∧ w'.cell? ⟨z13, 2, none⟩ = some vF)) (by kernel_rfl) ?_ (fun hHeld => ?_)
            · (try dsimp only); exact ⟨HS12.out.drew.cell 3 rfl 1, HS12.out.drew.cell 3 rfl 2, HS12.out.drew.cell 4 rfl 0, HS12.out.drew.cell 4 rfl 1, HS12.out.drew.cell 4 rfl 2⟩
            refine wpAnyH_take (i := 0) (oi := ({ dst := some 70, op := Go.Op.move (Go.Operand.tmp 7), type := 23, pos := "law.go:55", after := #[], guard := none } : Oper)) (v := ?_) rfl (by kernel_rfl) (by kernel_rfl) (by kernel_rfl) (fun _ _ _ h => h) (Or.inl ⟨by rfl, ?_⟩) (by assumption) ?_
            rotate_left
            · (intro w hSw; (try dsimp only at hSw); go_simp; first | done | with_reducible rfl)
            try simp only [Act.put, List.setIfInBounds_toArray, List.set_cons_zero, List.set_cons_succ]
            refine wpAnyH_take (i := 1) (oi := ({ dst := some 71, op := Go.Op.fieldAddr 43 (Go.Operand.tmp 12) 1, type := 0, pos := "law.go:55", after := #[], guard := none } : Oper)) (v := ?_) rfl (by kernel_rfl) (by kernel_rfl) (by kernel_rfl) (fun _ _ _ h => h) (Or.inl ⟨by rfl, ?_⟩) (by assumption) ?_
            rotate_left
            · (intro w hSw; (try dsimp only at hSw); go_simp; first | done | with_reducible rfl)
            try simp only [Act.put, List.setIfInBounds_toArray, List.set_cons_zero, List.set_cons_succ]
            refine wpAnyH_take (i := 2) (oi := ({ dst := some 72, op := Go.Op.load 29 (Go.Operand.tmp 71), type := 29, pos := "law.go:55", after := #[{ on := 1, ground := Go.Ground.data }], guard := none } : Oper)) (v := ?_) rfl (by kernel_rfl) (by kernel_rfl) (by kernel_rfl) (fun _ _ _ h => h) (Or.inl ⟨by rfl, ?_⟩) (by assumption) ?_
            rotate_left
            · (intro w hSw; (try dsimp only at hSw); go_simp; first | done | with_reducible rfl)
            try simp only [Act.put, List.setIfInBounds_toArray, List.set_cons_zero, List.set_cons_succ]
            refine wpAnyH_take (i := 3) (oi := ({ dst := some 73, op := Go.Op.fieldAddr 43 (Go.Operand.tmp 12) 2, type := 0, pos := "law.go:55", after := #[], guard := none } : Oper)) (v := ?_) rfl (by kernel_rfl) (by kernel_rfl) (by kernel_rfl) (fun _ _ _ h => h) (Or.inl ⟨by rfl, ?_⟩) (by assumption) ?_
            rotate_left
            · (intro w hSw; (try dsimp only at hSw); go_simp; first | done | with_reducible rfl)
            try simp only [Act.put, List.setIfInBounds_toArray, List.set_cons_zero, List.set_cons_succ]
            refine wpAnyH_take (i := 4) (oi := ({ dst := some 74, op := Go.Op.load 28 (Go.Operand.tmp 73), type := 28, pos := "law.go:55", after := #[{ on := 3, ground := Go.Ground.data }], guard := none } : Oper)) (v := ?_) rfl (by kernel_rfl) (by kernel_rfl) (by kernel_rfl) (fun _ _ _ h => h) (Or.inl ⟨by rfl, ?_⟩) (by assumption) ?_
            rotate_left
            · (intro w hSw; (try dsimp only at hSw); go_simp; first | done | with_reducible rfl)
            try simp only [Act.put, List.setIfInBounds_toArray, List.set_cons_zero, List.set_cons_succ]
            refine wpAnyH_take (i := 6) (oi := ({ dst := some 76, op := Go.Op.load 32 (Go.Operand.tmp 13), type := 32, pos := "law.go:55", after := #[], guard := none } : Oper)) (v := ?_) rfl (by kernel_rfl) (by kernel_rfl) (by kernel_rfl) (fun _ _ _ h => h) (Or.inl ⟨by rfl, ?_⟩) (by assumption) ?_
            rotate_left
            · (intro w hSw; (try dsimp only at hSw); go_simp; first | done | with_reducible rfl)
            try simp only [Act.put, List.setIfInBounds_toArray, List.set_cons_zero, List.set_cons_succ]
            refine wpAnyH_ready (rs := [5]) (by kernel_rfl) (by simp) ?_
            refine AllReadyH.cons (o := ({ dst := some 75, op := Go.Op.call { callee := Go.Callee.value (Go.Operand.func 10), args := #[Go.Operand.tmp 70, Go.Operand.tmp 72, Go.Operand.tmp 74], argTypes := #[23, 29, 28] }, type := 32, pos := "law.go:55", after := #[{ on := 0, ground := Go.Ground.data }, { on := 2, ground := Go.Ground.data }, { on := 4, ground := Go.Ground.data }], guard := none } : Oper)) rfl (fun K hK => ?_) AllReadyH.nil
            go_simp
            go_at_call 10
            refine HTK.out.mono ?_
            rintro e w13 ⟨vP2, vA2, vF2, S', rfl, S13⟩
            have H13 := Lib.hid (show St (fun _ => False) W w13 [pO g S' q, blk z9 (pV s n vR' q.place vW' ((T + 1 : Nat) : Int)) 39, slc (Kd.int .u8) 5 vR' q.row, blk z #[.int .i64 0, .int .u64 xx, .slice A2 xh.length c2, .int .u8 xn] 43, blk z13 #[vP, vA, vF] 32, slc k80 80 vA rd.asks, slc (Kd.int .u8) 5 vF rd.failed, slc (kW ((T + 1 : Nat) : Int)) 88 vW' q.waits, slc (Kd.int .u8) 5 vP rd.pings, slc (Kd.int .u8) 5 vP2 rd.pings, slc k80 80 vA2 rd.asks, slc (Kd.int .u8) 5 vF2 rd.failed] from S13)
            clear S13 HTK
            go_wp2_with fail
            refine hK.out _ _ ?_ (fun hHeld2 => ?_)
            · (try dsimp only); exact ⟨H13.out.cell 3 rfl 1, H13.out.cell 3 rfl 2, H13.out.cell 4 rfl 0, H13.out.cell 4 rfl 1, H13.out.cell 4 rfl 2⟩
            clear hK K hHeld
            try simp only [Act.put, List.setIfInBounds_toArray, List.set_cons_zero, List.set_cons_succ]
            have HRD := Lib.hid (round_c w13 rd.pings rd.failed rd.asks vP2 vA2 vF2 vP vA vF (H13.out.get 9 rfl) (H13.out.get 10 rfl) (H13.out.get 11 rfl) (H13.out.get 8 rfl) (H13.out.get 5 rfl) (H13.out.get 6 rfl) (by have := HQ.out.2.2.2.2.2; have := HJ.out.2.2.2.2; omega))
            refine wpAnyH_ready (rs := [7]) (by kernel_rfl) (by simp) ?_
            refine AllReadyH.cons (o := ({ dst := some 77, op := Go.Op.call { callee := Go.Callee.value (Go.Operand.func 13), args := #[Go.Operand.tmp 75, Go.Operand.tmp 76], argTypes := #[32, 32] }, type := 4, pos := "law.go:55", after := #[{ on := 5, ground := Go.Ground.data }, { on := 6, ground := Go.Ground.data }, { on := 5, ground := Go.Ground.chain }], guard := none } : Oper)) rfl (fun K hK => ?_) AllReadyH.nil
            go_simp
            go_at_call 13
            refine HRD.out.mono ?_
            rintro e w14 ⟨rfl, b14⟩
            have H14 := Lib.hid (H13.out.below b14)
            clear b14 HRD H13 HS12
            go_wp2_with fail
            refine hK.out _ _ ?_ (fun hHeld3 => ?_)
            · (try dsimp only); exact ⟨H14.out.cell 3 rfl 1, H14.out.cell 3 rfl 2, H14.out.cell 4 rfl 0, H14.out.cell 4 rfl 1, H14.out.cell 4 rfl 2⟩
            clear hK K hHeld2
            try simp only [Act.put, List.setIfInBounds_toArray, List.set_cons_zero, List.set_cons_succ]
            refine wpAnyH_take (i := 8) (oi := ({ dst := some 78, op := Go.Op.unOp Go.UnOp.not 4 (Go.Operand.tmp 77), type := 4, pos := "law.go:55", after := #[{ on := 7, ground := Go.Ground.data }], guard := none } : Oper)) (v := ?_) rfl (by kernel_rfl) (by kernel_rfl) (by kernel_rfl) (fun _ _ _ h => h) (Or.inl ⟨by rfl, ?_⟩) (by assumption) ?_
            rotate_left
            · (intro w hSw; (try dsimp only at hSw); go_simp; first | done | with_reducible rfl)
            try simp only [Act.put, List.setIfInBounds_toArray, List.set_cons_zero, List.set_cons_succ]
            refine wpAnyH_done (by kernel_rfl) ?_ _
            clear hHeld3
            have HS := Lib.hid (show St (fun _ => False) W w14 [pO g S' q, blk z9 (pV q.self q.n vR' q.place vW' ((T + 1 : Nat) : Int)) 39, slc (Kd.int .u8) 5 vR' q.row, slc (kW ((T + 1 : Nat) : Int)) 88 vW' q.waits] by
              rw [HQ.out.1, HQ.out.2.1]
              exact H14.out.sub (by simp))
            have HE := Lib.hid (show T + 1 ≤ j + 1 ∧ q.waits.length ≤ j + 1 ∧ Okay q ∧ (∀ h ∈ q.row, 0 ≤ h ∧ h < 256) by
              have h1 := HJ.out.2.2.2
              have h2 := HQ.out.2.2.2.2.1
              exact ⟨by omega, by omega, HQ.out.2.2.2.1, HQ.out.2.2.1⟩)
            clear H14 HQ HRQ HXX HXH HK hgW
            go_upto_region 20 with fail
            obtain ⟨A9, c9, hv9⟩ := Kd.R_slice (HS.out.get 3 rfl).1
            have HV9 := Lib.hid hv9
            obtain ⟨qs, hqs⟩ : ∃ x, q.self = x := ⟨_, rfl⟩
            obtain ⟨qn, hqn⟩ : ∃ x, q.n = x := ⟨_, rfl⟩
            obtain ⟨qp, hqp⟩ : ∃ x, q.place = x := ⟨_, rfl⟩
            obtain ⟨ql, hql⟩ : ∃ x, q.waits.length = x := ⟨_, rfl⟩
            obtain ⟨qT, hqT⟩ : ∃ x : Int, ((T + 1 : Nat) : Int) = x := ⟨_, rfl⟩
            obtain ⟨vRR, hvR⟩ : ∃ x, vR' = x := ⟨_, rfl⟩
            have HSq := Lib.hid (show St (fun _ => False) W w14 [pO g S' q, blk z9 (pV qs qn vRR qp (.slice A9 ql c9) qT) 39, slc (Kd.int .u8) 5 vRR q.row, slc (kW qT) 88 (.slice A9 ql c9) q.waits] by
              rw [← hqs, ← hqn, ← hqp, ← hql, ← hqT, ← hvR, ← hv9]; exact HS.out)
            have HQE := Lib.hid (And.intro hqs (And.intro hqn (And.intro hqp (And.intro hql (And.intro hqT hvR)))))
            clear hqs hqn hqp hqT hvR hv9 HS
            have HWS := Lib.hid (waits_st HSq.out.drew 0 rfl (by have := HE.out.2.1; have := HJ.out.2.2.1; omega))
            unfold waitsSt at HWS
            refine wp_region_held_drew (S := (fun w' => w'.cell? ⟨z9, 0, none⟩ = some (.int .u8 qs) ∧ w'.cell? ⟨z9, 1, none⟩ = some (.int .i64 qn) ∧ w'.cell? ⟨z9, 2, none⟩ = some (vRR) ∧ w'.cell? ⟨z9, 3, none⟩ = some (.int .i64 qp) ∧ w'.cell? ⟨z9, 4, none⟩ = some (.slice A9 ql c9) ∧ w'.cell? ⟨z9, 5, none⟩ = some (.int .i64 qT))) (by kernel_rfl) ?_ (fun hHeld => ?_)
            · (try dsimp only); exact ⟨HSq.out.drew.cell 1 rfl 0, HSq.out.drew.cell 1 rfl 1, HSq.out.drew.cell 1 rfl 2, HSq.out.drew.cell 1 rfl 3, HSq.out.drew.cell 1 rfl 4, HSq.out.drew.cell 1 rfl 5⟩
            refine wpAnyH_take (i := 0) (oi := ({ dst := some 92, op := Go.Op.move (Go.Operand.tmp 7), type := 23, pos := "law.go:65", after := #[], guard := none } : Oper)) (v := ?_) rfl (by kernel_rfl) (by kernel_rfl) (by kernel_rfl) (fun _ _ _ h => h) (Or.inl ⟨by rfl, ?_⟩) (by assumption) ?_
            rotate_left
            · (intro w hSw; (try dsimp only at hSw); go_simp; first | done | with_reducible rfl)
            try simp only [Act.put, List.setIfInBounds_toArray, List.set_cons_zero, List.set_cons_succ]
            refine wpAnyH_take (i := 2) (oi := ({ dst := some 94, op := Go.Op.load 39 (Go.Operand.tmp 9), type := 39, pos := "law.go:65", after := #[], guard := none } : Oper)) (v := ?_) rfl (by kernel_rfl) (by kernel_rfl) (by kernel_rfl) (fun _ _ _ h => h) (Or.inl ⟨by rfl, ?_⟩) (by assumption) ?_
            rotate_left
            · (intro w hSw; (try dsimp only at hSw); go_simp; first | done | with_reducible rfl)
            try simp only [Act.put, List.setIfInBounds_toArray, List.set_cons_zero, List.set_cons_succ]
            refine wpAnyH_ready (rs := [1]) (by kernel_rfl) (by simp) ?_
            refine AllReadyH.cons (o := ({ dst := some 93, op := Go.Op.call { callee := Go.Callee.value (Go.Operand.func 17), args := #[Go.Operand.tmp 92], argTypes := #[23] }, type := 28, pos := "law.go:65", after := #[{ on := 0, ground := Go.Ground.data }], guard := none } : Oper)) rfl (fun K hK => ?_) AllReadyH.nil
            go_simp
            go_at_call 17
            refine HWS.out.mono ?_
            rintro e w21 ⟨v1, rfl, S21⟩
            have H21 := Lib.hid S21
            clear S21 HWS HSq
            go_wp2_with fail
            refine hK.out _ _ ?_ (fun hHeld2 => ?_)
            · (try dsimp only); exact ⟨H21.out.cell 1 rfl 0, H21.out.cell 1 rfl 1, H21.out.cell 1 rfl 2, H21.out.cell 1 rfl 3, H21.out.cell 1 rfl 4, H21.out.cell 1 rfl 5⟩
            clear hK K hHeld
            try simp only [Act.put, List.setIfInBounds_toArray, List.set_cons_zero, List.set_cons_succ]
            have HND := Lib.hid (rnodes_c qT q.waits qs qn qp qT vRR A9 c9 w21 (HQE.out.2.2.2.1 ▸ (Kd.R_reads' (H21.out.get 3 rfl).1).2.2) (by have := HE.out.2.1; have := HJ.out.2.2.1; omega))
            unfold rnodesPost pV at HND
            rw [HQE.out.2.2.2.1] at HND
            refine wpAnyH_ready (rs := [3]) (by kernel_rfl) (by simp) ?_
            refine AllReadyH.cons (o := ({ dst := some 95, op := Go.Op.call { callee := Go.Callee.value (Go.Operand.func 18), args := #[Go.Operand.tmp 94], argTypes := #[39] }, type := 28, pos := "law.go:65", after := #[{ on := 2, ground := Go.Ground.data }, { on := 1, ground := Go.Ground.chain }], guard := none } : Oper)) rfl (fun K hK => ?_) AllReadyH.nil
            go_simp
            go_at_call 18
            refine HND.out.mono ?_
            rintro e w22 ⟨v2, rfl, S22⟩
            have H22 := Lib.hid (H21.out.adds S22)
            clear S22 HND H21
            go_wp2_with fail
            refine hK.out _ _ ?_ (fun hHeld3 => ?_)
            · (try dsimp only); exact ⟨H22.out.cell 1 rfl 0, H22.out.cell 1 rfl 1, H22.out.cell 1 rfl 2, H22.out.cell 1 rfl 3, H22.out.cell 1 rfl 4, H22.out.cell 1 rfl 5⟩
            clear hK K hHeld2
            try simp only [Act.put, List.setIfInBounds_toArray, List.set_cons_zero, List.set_cons_succ]
            have HSM := Lib.hid (same_c w22 v1 v2 (q.waits.map (·.f0)) (q.waits.map (·.f0)) (H22.out.get 4 rfl) (H22.out.get 5 rfl) (by rw [List.length_map]; have := HE.out.2.1; have := HJ.out.2.2.1; omega))
            refine wpAnyH_ready (rs := [4]) (by kernel_rfl) (by simp) ?_
            refine AllReadyH.cons (o := ({ dst := some 96, op := Go.Op.call { callee := Go.Callee.value (Go.Operand.func 16), args := #[Go.Operand.tmp 93, Go.Operand.tmp 95], argTypes := #[28, 28] }, type := 4, pos := "law.go:65", after := #[{ on := 1, ground := Go.Ground.data }, { on := 3, ground := Go.Ground.data }, { on := 3, ground := Go.Ground.chain }], guard := none } : Oper)) rfl (fun K hK => ?_) AllReadyH.nil
            go_simp
            go_at_call 16
            refine HSM.out.mono ?_
            rintro e w23 ⟨rfl, b23⟩
            have H23 := Lib.hid (H22.out.below b23)
            clear b23 HSM H22
            go_wp2_with fail
            refine hK.out _ _ ?_ (fun hHeld4 => ?_)
            · (try dsimp only); exact ⟨H23.out.cell 1 rfl 0, H23.out.cell 1 rfl 1, H23.out.cell 1 rfl 2, H23.out.cell 1 rfl 3, H23.out.cell 1 rfl 4, H23.out.cell 1 rfl 5⟩
            clear hK K hHeld3
            try simp only [Act.put, List.setIfInBounds_toArray, List.set_cons_zero, List.set_cons_succ]
            refine wpAnyH_take (i := 5) (oi := ({ dst := some 97, op := Go.Op.unOp Go.UnOp.not 4 (Go.Operand.tmp 96), type := 4, pos := "law.go:65", after := #[{ on := 4, ground := Go.Ground.data }], guard := none } : Oper)) (v := ?_) rfl (by kernel_rfl) (by kernel_rfl) (by kernel_rfl) (fun _ _ _ h => h) (Or.inl ⟨by rfl, ?_⟩) (by assumption) ?_
            rotate_left
            · (intro w hSw; (try dsimp only at hSw); go_simp; first | done | with_reducible rfl)
            try simp only [Act.put, List.setIfInBounds_toArray, List.set_cons_zero, List.set_cons_succ]
            refine wpAnyH_done (by kernel_rfl) ?_ _
            clear hHeld4
            go_wp2_with fail
            go_roundg (ops.length - j)
            case measure => have := HJ.out.1; omega
            case rel =>
              have h1 := HJ.out
              have h2 := HE.out
              have h3 := HB.out.1
              refine ⟨j + 1, _, q, S', vRR, .slice A9 ql c9, by go_num, by omega, by omega, by omega, h2.1, h2.2.1, h2.2.2.1, h2.2.2.2, ?_⟩
              have h4 := HQE.out
              rw [h4.1, h4.2.1, h4.2.2.1, h4.2.2.2.2.1]
              exact (H23.out.drop 5).drop 4
          · have k0 : (xk == 0) = false := by simpa using hk0
            go_upto_region 17 with fail
            clear d0 k0 d1 d2 d3
            have S8 := H8.out
            have e0 : w8.cell? ⟨z9, 0, none⟩ = some (.int .u8 s) := S8.cell 1 rfl 0
            have e1 : w8.cell? ⟨z9, 1, none⟩ = some (.int .i64 n) := S8.cell 1 rfl 1
            have e2 : w8.cell? ⟨z9, 2, none⟩ = some (.slice AR row.length cR) := S8.cell 1 rfl 2
            have e3 : w8.cell? ⟨z9, 3, none⟩ = some (.int .i64 pl) := S8.cell 1 rfl 3
            have e4 : w8.cell? ⟨z9, 4, none⟩ = some (.slice AW ws.length cW) := S8.cell 1 rfl 4
            have e5 : w8.cell? ⟨z9, 5, none⟩ = some (.int .i64 T) := S8.cell 1 rfl 5
            have d3 : w8.cell? ⟨z, 3, none⟩ = some (.int .u8 xn) := S8.cell 4 rfl 3
            have HA := Lib.hid (ranswer_c T ws xn s n pl T (.slice AR row.length cR) rfl AW cW w8 (Kd.R_reads' (S8.get 3 rfl).1).2.2 (by have := HJ.out.2.2.2.2; omega))
            unfold ransPost pV at HA
            obtain ⟨bb, hbb⟩ : ∃ bb, (ws.any fun x => x.f0 == xn) = bb := ⟨_, rfl⟩
            have HBB := Lib.hid hbb
            rw [hbb] at HA
            obtain ⟨q, hq⟩ : ∃ q, ansF ⟨s, n, row, pl, ws⟩ xn = q := ⟨_, rfl⟩
            have HQ := Lib.hid (show q.self = s ∧ q.n = n ∧ q.row = row ∧ q.place = pl ∧ q.waits = ws.filter (fun x => !(x.f0 == xn)) ∧ Okay q ∧ q.waits.length ≤ ws.length by
              subst hq
              have h := ans_okay HK.out.1 xn
              exact ⟨rfl, rfl, rfl, rfl, rfl, h.1, h.2⟩)
            have HQ2 := Lib.hid hq
            clear S8 hbb hq
            go_wp2_with fail
            refine HA.out.mono ?_
            rintro e w9 ⟨v9, rfl, S9⟩
            have H9 := Lib.hid (show St (fun _ => False) W w9 [pO g S ⟨s, n, row, pl, ws⟩, blk z9 (pV s n (.slice AR row.length cR) pl (.slice AW ws.length cW) T) 39, slc (Kd.int .u8) 5 (.slice AR row.length cR) row, blk z #[.int .i64 xk, .int .u64 xx, .slice A2 xh.length c2, .int .u8 xn] 43, slc (kW T) 88 v9 (ws.filter fun x => !(x.f0 == xn))] from (H8.out.adds S9).drop 3)
            have HO := Lib.hid (pV_one (s := s) (n := n) (pl := pl) (T := (T : Int)) (vR := .slice AR row.length cR) rfl (R_oneCell (S9.get 0 rfl).1))
            clear S9 HA H8 e0 e1 e2 e3 e4 e5 d3
            go_upto_region 18 with (refine St.wpStoreA rfl 39 _ _ rfl H9.out 1 rfl (pV s n (.slice AR row.length cR) pl v9 T) rfl HO.out rfl rfl (by kernel_rfl) ?_; intro w10 H10)
            have d3 : w10.cell? ⟨z, 3, none⟩ = some (.int .u8 xn) := H10.out.cell 3 rfl 3
            have HAN := Lib.hid (answer_st H10.out 0 rfl xn)
            unfold ansSt at HAN
            rw [HQ2.out, show (⟨s, n, row, pl, ws⟩ : Pr).waits = ws from rfl, HBB.out] at HAN
            clear H9 HO
            go_wp2_with fail
            refine HAN.out.mono ?_
            rintro e w11 ⟨rfl, S11⟩
            have HS := Lib.hid (show St (fun _ => False) W w11 [pO g S q, blk z9 (pV q.self q.n (.slice AR row.length cR) q.place v9 T) 39, slc (Kd.int .u8) 5 (.slice AR row.length cR) q.row, slc (kW T) 88 v9 q.waits] by
              rw [HQ.out.1, HQ.out.2.1, HQ.out.2.2.1, HQ.out.2.2.2.1, HQ.out.2.2.2.2.1]
              exact S11.drop 3)
            have HE := Lib.hid (show T ≤ j + 1 ∧ q.waits.length ≤ j + 1 ∧ Okay q ∧ (∀ h ∈ q.row, 0 ≤ h ∧ h < 256) by
              have h1 := HJ.out.2.2.2
              have h2 := HQ.out.2.2.2.2.2.2
              exact ⟨by omega, by omega, HQ.out.2.2.2.2.2.1, HQ.out.2.2.1 ▸ HK.out.2⟩)
            clear S11 HAN H10 HQ HQ2 HBB HK d3
            cases bb with
            | true =>
              go_upto_region 20 with fail
              obtain ⟨A9, c9, hv9⟩ := Kd.R_slice (HS.out.get 3 rfl).1
              have HV9 := Lib.hid hv9
              obtain ⟨qs, hqs⟩ : ∃ x, q.self = x := ⟨_, rfl⟩
              obtain ⟨qn, hqn⟩ : ∃ x, q.n = x := ⟨_, rfl⟩
              obtain ⟨qp, hqp⟩ : ∃ x, q.place = x := ⟨_, rfl⟩
              obtain ⟨ql, hql⟩ : ∃ x, q.waits.length = x := ⟨_, rfl⟩
              obtain ⟨qT, hqT⟩ : ∃ x : Int, (T : Int) = x := ⟨_, rfl⟩
              obtain ⟨vRR, hvR⟩ : ∃ x, (Value.slice AR row.length cR) = x := ⟨_, rfl⟩
              have HSq := Lib.hid (show St (fun _ => False) W w11 [pO g S q, blk z9 (pV qs qn vRR qp (.slice A9 ql c9) qT) 39, slc (Kd.int .u8) 5 vRR q.row, slc (kW qT) 88 (.slice A9 ql c9) q.waits] by
                rw [← hqs, ← hqn, ← hqp, ← hql, ← hqT, ← hvR, ← hv9]; exact HS.out)
              have HQE := Lib.hid (And.intro hqs (And.intro hqn (And.intro hqp (And.intro hql (And.intro hqT hvR)))))
              clear hqs hqn hqp hqT hvR hv9 HS
              have HWS := Lib.hid (waits_st HSq.out.drew 0 rfl (by have := HE.out.2.1; have := HJ.out.2.2.1; omega))
              unfold waitsSt at HWS
              refine wp_region_held_drew (S := (fun w' => w'.cell? ⟨z9, 0, none⟩ = some (.int .u8 qs) ∧ w'.cell? ⟨z9, 1, none⟩ = some (.int .i64 qn) ∧ w'.cell? ⟨z9, 2, none⟩ = some (vRR) ∧ w'.cell? ⟨z9, 3, none⟩ = some (.int .i64 qp) ∧ w'.cell? ⟨z9, 4, none⟩ = some (.slice A9 ql c9) ∧ w'.cell? ⟨z9, 5, none⟩ = some (.int .i64 qT))) (by kernel_rfl) ?_ (fun hHeld => ?_)
              · (try dsimp only); exact ⟨HSq.out.drew.cell 1 rfl 0, HSq.out.drew.cell 1 rfl 1, HSq.out.drew.cell 1 rfl 2, HSq.out.drew.cell 1 rfl 3, HSq.out.drew.cell 1 rfl 4, HSq.out.drew.cell 1 rfl 5⟩
              refine wpAnyH_take (i := 0) (oi := ({ dst := some 92, op := Go.Op.move (Go.Operand.tmp 7), type := 23, pos := "law.go:65", after := #[], guard := none } : Oper)) (v := ?_) rfl (by kernel_rfl) (by kernel_rfl) (by kernel_rfl) (fun _ _ _ h => h) (Or.inl ⟨by rfl, ?_⟩) (by assumption) ?_
              rotate_left
              · (intro w hSw; (try dsimp only at hSw); go_simp; first | done | with_reducible rfl)
              try simp only [Act.put, List.setIfInBounds_toArray, List.set_cons_zero, List.set_cons_succ]
              refine wpAnyH_take (i := 2) (oi := ({ dst := some 94, op := Go.Op.load 39 (Go.Operand.tmp 9), type := 39, pos := "law.go:65", after := #[], guard := none } : Oper)) (v := ?_) rfl (by kernel_rfl) (by kernel_rfl) (by kernel_rfl) (fun _ _ _ h => h) (Or.inl ⟨by rfl, ?_⟩) (by assumption) ?_
              rotate_left
              · (intro w hSw; (try dsimp only at hSw); go_simp; first | done | with_reducible rfl)
              try simp only [Act.put, List.setIfInBounds_toArray, List.set_cons_zero, List.set_cons_succ]
              refine wpAnyH_ready (rs := [1]) (by kernel_rfl) (by simp) ?_
              refine AllReadyH.cons (o := ({ dst := some 93, op := Go.Op.call { callee := Go.Callee.value (Go.Operand.func 17), args := #[Go.Operand.tmp 92], argTypes := #[23] }, type := 28, pos := "law.go:65", after := #[{ on := 0, ground := Go.Ground.data }], guard := none } : Oper)) rfl (fun K hK => ?_) AllReadyH.nil
              go_simp
              go_at_call 17
              refine HWS.out.mono ?_
              rintro e w21 ⟨v1, rfl, S21⟩
              have H21 := Lib.hid S21
              clear S21 HWS HSq
              go_wp2_with fail
              refine hK.out _ _ ?_ (fun hHeld2 => ?_)
              · (try dsimp only); exact ⟨H21.out.cell 1 rfl 0, H21.out.cell 1 rfl 1, H21.out.cell 1 rfl 2, H21.out.cell 1 rfl 3, H21.out.cell 1 rfl 4, H21.out.cell 1 rfl 5⟩
              clear hK K hHeld
              try simp only [Act.put, List.setIfInBounds_toArray, List.set_cons_zero, List.set_cons_succ]
              have HND := Lib.hid (rnodes_c qT q.waits qs qn qp qT vRR A9 c9 w21 (HQE.out.2.2.2.1 ▸ (Kd.R_reads' (H21.out.get 3 rfl).1).2.2) (by have := HE.out.2.1; have := HJ.out.2.2.1; omega))
              unfold rnodesPost pV at HND
              rw [HQE.out.2.2.2.1] at HND
              refine wpAnyH_ready (rs := [3]) (by kernel_rfl) (by simp) ?_
              refine AllReadyH.cons (o := ({ dst := some 95, op := Go.Op.call { callee := Go.Callee.value (Go.Operand.func 18), args := #[Go.Operand.tmp 94], argTypes := #[39] }, type := 28, pos := "law.go:65", after := #[{ on := 2, ground := Go.Ground.data }, { on := 1, ground := Go.Ground.chain }], guard := none } : Oper)) rfl (fun K hK => ?_) AllReadyH.nil
              go_simp
              go_at_call 18
              refine HND.out.mono ?_
              rintro e w22 ⟨v2, rfl, S22⟩
              have H22 := Lib.hid (H21.out.adds S22)
              clear S22 HND H21
              go_wp2_with fail
              refine hK.out _ _ ?_ (fun hHeld3 => ?_)
              · (try dsimp only); exact ⟨H22.out.cell 1 rfl 0, H22.out.cell 1 rfl 1, H22.out.cell 1 rfl 2, H22.out.cell 1 rfl 3, H22.out.cell 1 rfl 4, H22.out.cell 1 rfl 5⟩
              clear hK K hHeld2
              try simp only [Act.put, List.setIfInBounds_toArray, List.set_cons_zero, List.set_cons_succ]
              have HSM := Lib.hid (same_c w22 v1 v2 (q.waits.map (·.f0)) (q.waits.map (·.f0)) (H22.out.get 4 rfl) (H22.out.get 5 rfl) (by rw [List.length_map]; have := HE.out.2.1; have := HJ.out.2.2.1; omega))
              refine wpAnyH_ready (rs := [4]) (by kernel_rfl) (by simp) ?_
              refine AllReadyH.cons (o := ({ dst := some 96, op := Go.Op.call { callee := Go.Callee.value (Go.Operand.func 16), args := #[Go.Operand.tmp 93, Go.Operand.tmp 95], argTypes := #[28, 28] }, type := 4, pos := "law.go:65", after := #[{ on := 1, ground := Go.Ground.data }, { on := 3, ground := Go.Ground.data }, { on := 3, ground := Go.Ground.chain }], guard := none } : Oper)) rfl (fun K hK => ?_) AllReadyH.nil
              go_simp
              go_at_call 16
              refine HSM.out.mono ?_
              rintro e w23 ⟨rfl, b23⟩
              have H23 := Lib.hid (H22.out.below b23)
              clear b23 HSM H22
              go_wp2_with fail
              refine hK.out _ _ ?_ (fun hHeld4 => ?_)
              · (try dsimp only); exact ⟨H23.out.cell 1 rfl 0, H23.out.cell 1 rfl 1, H23.out.cell 1 rfl 2, H23.out.cell 1 rfl 3, H23.out.cell 1 rfl 4, H23.out.cell 1 rfl 5⟩
              clear hK K hHeld3
              try simp only [Act.put, List.setIfInBounds_toArray, List.set_cons_zero, List.set_cons_succ]
              refine wpAnyH_take (i := 5) (oi := ({ dst := some 97, op := Go.Op.unOp Go.UnOp.not 4 (Go.Operand.tmp 96), type := 4, pos := "law.go:65", after := #[{ on := 4, ground := Go.Ground.data }], guard := none } : Oper)) (v := ?_) rfl (by kernel_rfl) (by kernel_rfl) (by kernel_rfl) (fun _ _ _ h => h) (Or.inl ⟨by rfl, ?_⟩) (by assumption) ?_
              rotate_left
              · (intro w hSw; (try dsimp only at hSw); go_simp; first | done | with_reducible rfl)
              try simp only [Act.put, List.setIfInBounds_toArray, List.set_cons_zero, List.set_cons_succ]
              refine wpAnyH_done (by kernel_rfl) ?_ _
              clear hHeld4
              go_wp2_with fail
              go_roundg (ops.length - j)
              case measure => have := HJ.out.1; omega
              case rel =>
                have h1 := HJ.out
                have h2 := HE.out
                have h3 := HB.out.1
                refine ⟨j + 1, _, q, S, vRR, .slice A9 ql c9, by go_num, by omega, by omega, by omega, h2.1, h2.2.1, h2.2.2.1, h2.2.2.2, ?_⟩
                have h4 := HQE.out
                rw [h4.1, h4.2.1, h4.2.2.1, h4.2.2.2.2.1]
                exact (H23.out.drop 5).drop 4
            | false =>
              go_upto_region 20 with fail
              obtain ⟨A9, c9, hv9⟩ := Kd.R_slice (HS.out.get 3 rfl).1
              have HV9 := Lib.hid hv9
              obtain ⟨qs, hqs⟩ : ∃ x, q.self = x := ⟨_, rfl⟩
              obtain ⟨qn, hqn⟩ : ∃ x, q.n = x := ⟨_, rfl⟩
              obtain ⟨qp, hqp⟩ : ∃ x, q.place = x := ⟨_, rfl⟩
              obtain ⟨ql, hql⟩ : ∃ x, q.waits.length = x := ⟨_, rfl⟩
              obtain ⟨qT, hqT⟩ : ∃ x : Int, (T : Int) = x := ⟨_, rfl⟩
              obtain ⟨vRR, hvR⟩ : ∃ x, (Value.slice AR row.length cR) = x := ⟨_, rfl⟩
              have HSq := Lib.hid (show St (fun _ => False) W w11 [pO g S q, blk z9 (pV qs qn vRR qp (.slice A9 ql c9) qT) 39, slc (Kd.int .u8) 5 vRR q.row, slc (kW qT) 88 (.slice A9 ql c9) q.waits] by
                rw [← hqs, ← hqn, ← hqp, ← hql, ← hqT, ← hvR, ← hv9]; exact HS.out)
              have HQE := Lib.hid (And.intro hqs (And.intro hqn (And.intro hqp (And.intro hql (And.intro hqT hvR)))))
              clear hqs hqn hqp hqT hvR hv9 HS
              have HWS := Lib.hid (waits_st HSq.out.drew 0 rfl (by have := HE.out.2.1; have := HJ.out.2.2.1; omega))
              unfold waitsSt at HWS
              refine wp_region_held_drew (S := (fun w' => w'.cell? ⟨z9, 0, none⟩ = some (.int .u8 qs) ∧ w'.cell? ⟨z9, 1, none⟩ = some (.int .i64 qn) ∧ w'.cell? ⟨z9, 2, none⟩ = some (vRR) ∧ w'.cell? ⟨z9, 3, none⟩ = some (.int .i64 qp) ∧ w'.cell? ⟨z9, 4, none⟩ = some (.slice A9 ql c9) ∧ w'.cell? ⟨z9, 5, none⟩ = some (.int .i64 qT))) (by kernel_rfl) ?_ (fun hHeld => ?_)
              · (try dsimp only); exact ⟨HSq.out.drew.cell 1 rfl 0, HSq.out.drew.cell 1 rfl 1, HSq.out.drew.cell 1 rfl 2, HSq.out.drew.cell 1 rfl 3, HSq.out.drew.cell 1 rfl 4, HSq.out.drew.cell 1 rfl 5⟩
              refine wpAnyH_take (i := 0) (oi := ({ dst := some 92, op := Go.Op.move (Go.Operand.tmp 7), type := 23, pos := "law.go:65", after := #[], guard := none } : Oper)) (v := ?_) rfl (by kernel_rfl) (by kernel_rfl) (by kernel_rfl) (fun _ _ _ h => h) (Or.inl ⟨by rfl, ?_⟩) (by assumption) ?_
              rotate_left
              · (intro w hSw; (try dsimp only at hSw); go_simp; first | done | with_reducible rfl)
              try simp only [Act.put, List.setIfInBounds_toArray, List.set_cons_zero, List.set_cons_succ]
              refine wpAnyH_take (i := 2) (oi := ({ dst := some 94, op := Go.Op.load 39 (Go.Operand.tmp 9), type := 39, pos := "law.go:65", after := #[], guard := none } : Oper)) (v := ?_) rfl (by kernel_rfl) (by kernel_rfl) (by kernel_rfl) (fun _ _ _ h => h) (Or.inl ⟨by rfl, ?_⟩) (by assumption) ?_
              rotate_left
              · (intro w hSw; (try dsimp only at hSw); go_simp; first | done | with_reducible rfl)
              try simp only [Act.put, List.setIfInBounds_toArray, List.set_cons_zero, List.set_cons_succ]
              refine wpAnyH_ready (rs := [1]) (by kernel_rfl) (by simp) ?_
              refine AllReadyH.cons (o := ({ dst := some 93, op := Go.Op.call { callee := Go.Callee.value (Go.Operand.func 17), args := #[Go.Operand.tmp 92], argTypes := #[23] }, type := 28, pos := "law.go:65", after := #[{ on := 0, ground := Go.Ground.data }], guard := none } : Oper)) rfl (fun K hK => ?_) AllReadyH.nil
              go_simp
              go_at_call 17
              refine HWS.out.mono ?_
              rintro e w21 ⟨v1, rfl, S21⟩
              have H21 := Lib.hid S21
              clear S21 HWS HSq
              go_wp2_with fail
              refine hK.out _ _ ?_ (fun hHeld2 => ?_)
              · (try dsimp only); exact ⟨H21.out.cell 1 rfl 0, H21.out.cell 1 rfl 1, H21.out.cell 1 rfl 2, H21.out.cell 1 rfl 3, H21.out.cell 1 rfl 4, H21.out.cell 1 rfl 5⟩
              clear hK K hHeld
              try simp only [Act.put, List.setIfInBounds_toArray, List.set_cons_zero, List.set_cons_succ]
              have HND := Lib.hid (rnodes_c qT q.waits qs qn qp qT vRR A9 c9 w21 (HQE.out.2.2.2.1 ▸ (Kd.R_reads' (H21.out.get 3 rfl).1).2.2) (by have := HE.out.2.1; have := HJ.out.2.2.1; omega))
              unfold rnodesPost pV at HND
              rw [HQE.out.2.2.2.1] at HND
              refine wpAnyH_ready (rs := [3]) (by kernel_rfl) (by simp) ?_
              refine AllReadyH.cons (o := ({ dst := some 95, op := Go.Op.call { callee := Go.Callee.value (Go.Operand.func 18), args := #[Go.Operand.tmp 94], argTypes := #[39] }, type := 28, pos := "law.go:65", after := #[{ on := 2, ground := Go.Ground.data }, { on := 1, ground := Go.Ground.chain }], guard := none } : Oper)) rfl (fun K hK => ?_) AllReadyH.nil
              go_simp
              go_at_call 18
              refine HND.out.mono ?_
              rintro e w22 ⟨v2, rfl, S22⟩
              have H22 := Lib.hid (H21.out.adds S22)
              clear S22 HND H21
              go_wp2_with fail
              refine hK.out _ _ ?_ (fun hHeld3 => ?_)
              · (try dsimp only); exact ⟨H22.out.cell 1 rfl 0, H22.out.cell 1 rfl 1, H22.out.cell 1 rfl 2, H22.out.cell 1 rfl 3, H22.out.cell 1 rfl 4, H22.out.cell 1 rfl 5⟩
              clear hK K hHeld2
              try simp only [Act.put, List.setIfInBounds_toArray, List.set_cons_zero, List.set_cons_succ]
              have HSM := Lib.hid (same_c w22 v1 v2 (q.waits.map (·.f0)) (q.waits.map (·.f0)) (H22.out.get 4 rfl) (H22.out.get 5 rfl) (by rw [List.length_map]; have := HE.out.2.1; have := HJ.out.2.2.1; omega))
              refine wpAnyH_ready (rs := [4]) (by kernel_rfl) (by simp) ?_
              refine AllReadyH.cons (o := ({ dst := some 96, op := Go.Op.call { callee := Go.Callee.value (Go.Operand.func 16), args := #[Go.Operand.tmp 93, Go.Operand.tmp 95], argTypes := #[28, 28] }, type := 4, pos := "law.go:65", after := #[{ on := 1, ground := Go.Ground.data }, { on := 3, ground := Go.Ground.data }, { on := 3, ground := Go.Ground.chain }], guard := none } : Oper)) rfl (fun K hK => ?_) AllReadyH.nil
              go_simp
              go_at_call 16
              refine HSM.out.mono ?_
              rintro e w23 ⟨rfl, b23⟩
              have H23 := Lib.hid (H22.out.below b23)
              clear b23 HSM H22
              go_wp2_with fail
              refine hK.out _ _ ?_ (fun hHeld4 => ?_)
              · (try dsimp only); exact ⟨H23.out.cell 1 rfl 0, H23.out.cell 1 rfl 1, H23.out.cell 1 rfl 2, H23.out.cell 1 rfl 3, H23.out.cell 1 rfl 4, H23.out.cell 1 rfl 5⟩
              clear hK K hHeld3
              try simp only [Act.put, List.setIfInBounds_toArray, List.set_cons_zero, List.set_cons_succ]
              refine wpAnyH_take (i := 5) (oi := ({ dst := some 97, op := Go.Op.unOp Go.UnOp.not 4 (Go.Operand.tmp 96), type := 4, pos := "law.go:65", after := #[{ on := 4, ground := Go.Ground.data }], guard := none } : Oper)) (v := ?_) rfl (by kernel_rfl) (by kernel_rfl) (by kernel_rfl) (fun _ _ _ h => h) (Or.inl ⟨by rfl, ?_⟩) (by assumption) ?_
              rotate_left
              · (intro w hSw; (try dsimp only at hSw); go_simp; first | done | with_reducible rfl)
              try simp only [Act.put, List.setIfInBounds_toArray, List.set_cons_zero, List.set_cons_succ]
              refine wpAnyH_done (by kernel_rfl) ?_ _
              clear hHeld4
              go_wp2_with fail
              go_roundg (ops.length - j)
              case measure => have := HJ.out.1; omega
              case rel =>
                have h1 := HJ.out
                have h2 := HE.out
                have h3 := HB.out.1
                refine ⟨j + 1, _, q, S, vRR, .slice A9 ql c9, by go_num, by omega, by omega, by omega, h2.1, h2.2.1, h2.2.2.1, h2.2.2.2, ?_⟩
                have h4 := HQE.out
                rw [h4.1, h4.2.1, h4.2.2.1, h4.2.2.2.2.1]
                exact (H23.out.drop 5).drop 4
    · have hjl' : ¬ (j : Int) < (ops.length : Int) := by omega
      clear hjl
      go_wp2_with fail
      go_ret
      exact ⟨rfl, H7.out.base⟩
theorem plays_row (a0 a1 : Int) (w0 : (Lit.int .u8 a0).wf = true) (ops : List S43) (A : Option Addr) (c : Nat) (W : World) (hC : k43.C W A ops.length ops) (hg : ∀ x ∈ ops, g43 x) :
    Calls Try.prog 4 #[.int .u8 a0, .int .i64 a1, .slice A ops.length c] W fun e w' => e = .returned (.bool true) ∧ Below W.heap.size W w' := by
  have b0 := u8_wf w0
  by_cases h : a1 < 1 ∨ 64 < a1 ∨ a1 ≤ a0
  · exact plays_bad a0 a1 b0 h ops A c W
  · obtain ⟨s, rfl⟩ : ∃ s : Nat, a0 = s := ⟨a0.toNat, by omega⟩
    obtain ⟨n, rfl⟩ : ∃ n : Nat, a1 = n := ⟨a1.toNat, by omega⟩
    exact plays_good s n (by omega) (by omega) (by omega) ops A c W hC hg
end Go.Proofs.Ytjhmkmcongjngaa
