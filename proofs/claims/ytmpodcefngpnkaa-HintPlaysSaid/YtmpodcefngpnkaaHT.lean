/- HintTold. -/
import Derived.Test.YtmpodcefngpnkaaHPl
import Derived.Test.YtmpodcefngpnkaaHU
import Derived.Test.YtmpodcefngpnkaaHO
set_option linter.unusedVariables false
set_option linter.unusedSimpArgs false
namespace Go.Proofs.Ytmpodcefngpnkaa
open Go.RowKit Go.Tat Go.Proofs.YtmpodcefngpnkaaW.PrintWords PHintPlays
def rownPost (w : World) (r : List Int) (e : Ending) (w' : World) : Prop := ∃ v, e = .returned v ∧ St (fun _ => False) w w' [slc (Kd.int .u8) 5 v r]
theorem rown_c (key : ByteArray) (hs : key.size ≤ 1000000) (up : List Int) (hl : up.length ≤ 1000000) (h0 : ∀ x ∈ up, 0 ≤ x ∧ x < 256) (A : Option Addr) (c : Nat) (w : World) (hC : (Kd.int .u8).C w A up.length up) (hc : up.length ≤ c) :
    Calls Try.prog 16 #[.string key, .slice A up.length c] w (rownPost w (own key up)) := by
  refine (tattlerref16_Owners.calls 2000301 key A c up (own key up) w hC hc (rowners_is key hs up hl h0 _ (by decide))).mono ?_
  rintro e w' ⟨v, rfl, hR, hB⟩
  exact ⟨v, rfl, St.ofR hR rfl hB⟩
theorem rowns_c (key : ByteArray) (hs : key.size ≤ 1000000) (up : List Int) (hl : up.length ≤ 1000000) (h0 : ∀ x ∈ up, 0 ≤ x ∧ x < 256) (n : Int) (A : Option Addr) (c : Nat) (w : World) (hC : (Kd.int .u8).C w A up.length up) (hc : up.length ≤ c) :
    Calls Try.prog 14 #[.string key, .slice A up.length c, .int .u8 n] w fun e w' => e = .returned (.bool (decide (n ∈ own key up))) ∧ Below w.heap.size w w' :=
  tattlerref16_Owns.calls 2000301 key A c up n (decide (n ∈ own key up)) w hC hc (rowns_is key hs up hl h0 n _ (by decide))
set_option maxRecDepth 100000 in
set_option maxHeartbeats 8000000 in
theorem told_c (ops : List Oq) (A : Option Addr) (c : Nat) (up : List Int) (Au : Option Addr) (cu : Nat) (W : World) (hC : k37.C W A ops.length ops) (hc : ops.length ≤ c) (hgo : ∀ o ∈ ops, 0 ≤ o.f2 ∧ o.f2 < 256)
    (hCu : (Kd.int .u8).C W Au up.length up) (hcu : up.length ≤ cu) (h0 : ∀ x ∈ up, 0 ≤ x ∧ x < 256) :
    Calls Try.prog 3 #[.slice A ops.length c, .slice Au up.length cu] W fun e w' => e = .returned (.bool true) ∧ Below W.heap.size W w' := by
  have HC := Lib.hid (And.intro hC hgo)
  have HU := Lib.hid (And.intro hCu (And.intro hcu h0))
  have HN := Lib.hid (new_st (St.nil (fun _ => False) W) 64 (by omega))
  have HCU := Lib.hid (fun w (b : Below W.heap.size W w) => cut_c ops A c w (Kd.C_below hC b) hc)
  obtain ⟨nu, hnu⟩ : ∃ nu, up.length = nu := ⟨_, rfl⟩
  have HNU := Lib.hid hnu
  rw [hnu]
  clear hC hgo hCu hcu h0 hnu
  go_enter Try.func3, Try.ntmps3
  go_wp2_with fail
  refine HN.out.mono ?_
  rintro e w1 ⟨g, S, rfl, S1⟩
  have H1 := Lib.hid (show St (fun _ => False) W w1 [hO g S 64 []] from S1)
  clear S1 HN
  go_wp2_with fail
  refine (fixed_c _).mono ?_
  rintro e w2 ⟨rfl, b2⟩
  have H2 := Lib.hid (H1.out.below b2)
  clear b2 H1
  by_cases hu : 100 < (nu : Int)
  · go_wp2_with fail
    refine (fixed_c _).mono ?_
    rintro e w3 ⟨rfl, b3⟩
    go_wp2_with fail
    go_ret
    exact ⟨rfl, (H2.out.below b3).base⟩
  have hul : up.length ≤ 1000000 := by have := HNU.out; omega
  have HUL := Lib.hid hul
  clear hul
  go_wp2_with fail
  refine (HCU.out _ H2.out.base).mono ?_
  rintro e w3 ⟨i, rfl, hi, hi8, hcb, b3⟩
  have H3 := Lib.hid (H2.out.below b3)
  have HI := Lib.hid (And.intro hi (And.intro hi8 hcb))
  clear b3 H2 HCU hi hi8 hcb hu
  go_upto_block 0 with fail
  go_cut [] (fun wx => ∃ (l : List Hn) (S : Nat → Prop), HInv 64 l ∧ St (fun _ => False) W wx [hO g S 64 l])
  case first =>
    go_wp2_with fail
    go_loopg [35] (i + 1) (fun m v30 wx => ∃ (j : Nat) (l : List Hn) (S : Nat → Prop), v30 = .int .i64 j ∧ j ≤ i ∧ i - j < m ∧ HInv 64 l ∧ St (fun _ => False) W wx [hO g S 64 l])
    case atStart => exact ⟨0, [], S, rfl, by omega, by omega, HInv.nil 64 (by decide), H3.out⟩
    case round =>
      clear H3
      obtain ⟨j, l, S, rfl, hj, hjm, hI, S4⟩ := hrel
      have H4 := Lib.hid S4
      have HJ := Lib.hid (And.intro hI (And.intro hj hjm))
      clear hI hj hjm S4
      by_cases hjl : j < i
      · have hjl' : (j : Int) < (i : Int) := by omega
        have hj0 : (0 : Int) ≤ (j : Int) := by omega
        obtain ⟨x, hx⟩ : ∃ x, ops[j]? = some x := ⟨_, List.getElem?_eq_getElem (by have := HI.out.1; omega)⟩
        have hxb := HI.out.2.2 x (List.mem_of_getElem? (i := j) (by rw [List.getElem?_take_of_lt hjl]; exact hx))
        have hks := hxb.1
        have hgn := HC.out.2 x (List.mem_of_getElem? hx)
        obtain ⟨ad, b, o, cs, rfl, had, hb, hK, hcs⟩ := C_at HC.out.1 hx (by decide)
        obtain ⟨ok, ⟨rk, ⟨rp, rl, rn⟩, rd, rf, re, rb⟩, on, up'⟩ := x
        obtain ⟨Au', cu', rfl, hul, hup⟩ := k37_open hK
        dsimp only at hcs hul hup hgn
        have hBw := H4.out.base
        have c0 := (hBw.cell (p := ⟨b, o, none⟩) hb).trans (hcs 0 _ rfl)
        have c1 := (hBw.cell (p := ⟨b, o + 1, none⟩) hb).trans (hcs 1 _ rfl)
        have c2 := (hBw.cell (p := ⟨b, o + 2, none⟩) hb).trans (hcs 2 _ rfl)
        have c3 := (hBw.cell (p := ⟨b, o + 3, none⟩) hb).trans (hcs 3 _ rfl)
        have c4 := (hBw.cell (p := ⟨b, o + 4, none⟩) hb).trans (hcs 4 _ rfl)
        have c5 := (hBw.cell (p := ⟨b, o + 5, none⟩) hb).trans (hcs 5 _ rfl)
        have c6 := (hBw.cell (p := ⟨b, o + 6, none⟩) hb).trans (hcs 6 _ rfl)
        have c7 := (hBw.cell (p := ⟨b, o + 7, none⟩) hb).trans (hcs 7 _ rfl)
        have c8 := (hBw.cell (p := ⟨b, o + 8, none⟩) hb).trans (hcs 8 _ rfl)
        have c9 := (hBw.cell (p := ⟨b, o + 9, none⟩) hb).trans (hcs 9 _ rfl)
        have c10 := (hBw.cell (p := ⟨b, o + 10, none⟩) hb).trans (hcs 10 _ rfl)
        have had' : ad.add (j * 11) = ⟨b, o, none⟩ := had
        clear hK hcs had hx hBw hup hxb
        dsimp only at hks
        have hks2 : rk.size < 4611686018427387904 := by omega
        have HKS := Lib.hid (And.intro hks2 hgn)
        clear hks hks2 hgn
        go_upto_region 7 with fail
        have S5 := H4.out.new' #[.int .i64 ok, .string rk, .int .u64 rp, .int .u32 rl, .int .u8 rn, .int .u8 rd, .int .u32 rf, .int .u64 re, .string rb, .int .u8 on, .slice Au' up'.length cu'] 37 wr.heap.size rfl
        obtain ⟨z, hz⟩ : ∃ z, wr.heap.size = z := ⟨_, rfl⟩
        rw [hz] at S5 ⊢
        clear hz
        generalize World.alloc wr _ = w4 at *
        have d0 : w4.cell? ⟨z, 0, none⟩ = some (.int .i64 ok) := S5.cell 1 rfl 0
        have d1 : w4.cell? ⟨z, 1, none⟩ = some (.string rk) := S5.cell 1 rfl 1
        have d2 : w4.cell? ⟨z, 2, none⟩ = some (.int .u64 rp) := S5.cell 1 rfl 2
        have d3 : w4.cell? ⟨z, 3, none⟩ = some (.int .u32 rl) := S5.cell 1 rfl 3
        have d4 : w4.cell? ⟨z, 4, none⟩ = some (.int .u8 rn) := S5.cell 1 rfl 4
        have d5 : w4.cell? ⟨z, 5, none⟩ = some (.int .u8 rd) := S5.cell 1 rfl 5
        have d6 : w4.cell? ⟨z, 6, none⟩ = some (.int .u32 rf) := S5.cell 1 rfl 6
        have d7 : w4.cell? ⟨z, 7, none⟩ = some (.int .u64 re) := S5.cell 1 rfl 7
        have d8 : w4.cell? ⟨z, 8, none⟩ = some (.string rb) := S5.cell 1 rfl 8
        have d9 : w4.cell? ⟨z, 9, none⟩ = some (.int .u8 on) := S5.cell 1 rfl 9
        have H5 := Lib.hid S5
        clear S5 H4 c0 c1 c2 c3 c4 c5 c6 c7 c8 c9 c10 had' hul
        have hlm : l.length ≤ 1000000 := by have := HJ.out.1.len; omega
        by_cases hk : ok = 1
        · subst hk
          by_cases hn : 64 ≤ on
          · have HA := Lib.hid (ack_high g rk ⟨rp, rl, rn⟩ on hn w4)
            unfold eStp at HA
            dsimp only at HA
            clear hn hlm
            go_wp2_with fail
            refine HA.out.mono ?_
            rintro e w5 ⟨rfl, b5⟩
            have H6 := Lib.hid ((H5.out.below b5).drop 1)
            clear HA H5 b5 d0 d1 d2 d3 d4 d5 d6 d7 d8 d9
            go_wp2_with fail
            go_roundg (i - j)
            case measure => have := HJ.out; omega
            case rel => have := HJ.out; have := HI.out.2.1; exact ⟨j + 1, l, S, congrArg (Value.int .i64) (wrap64_succ (i := j) (m := 1000000) (by omega) (by decide)), by omega, by omega, HJ.out.1, H6.out⟩
          · have HA := Lib.hid (ack_st H5.out 0 rfl HJ.out.1.srt hlm rk ⟨rp, rl, rn⟩ on ⟨HKS.out.2.1, by omega⟩)
            have HI2 := Lib.hid (HJ.out.1.ack rk ⟨rp, rl, rn⟩ on)
            obtain ⟨l2, hl2⟩ : ∃ l2, ackL l rk ⟨rp, rl, rn⟩ on = l2 := ⟨_, rfl⟩
            obtain ⟨r2, hr2⟩ : ∃ r2, ackB l rk ⟨rp, rl, rn⟩ on = r2 := ⟨_, rfl⟩
            rw [hl2, hr2] at HA
            rw [hl2] at HI2
            unfold eStp at HA
            dsimp only at HA
            clear hl2 hr2 hlm hn
            go_wp2_with fail
            refine HA.out.mono ?_
            rintro e w5 ⟨rfl, S', S6⟩
            have H6 := Lib.hid ((show St (fun _ => False) W w5 ([hO g S' 64 l2] ++ [_]) from S6).drop 1)
            clear S6 HA H5 d0 d1 d2 d3 d4 d5 d6 d7 d8 d9
            go_wp2_with fail
            go_roundg (i - j)
            case measure => have := HJ.out; omega
            case rel => have := HJ.out; have := HI.out.2.1; exact ⟨j + 1, l2, S', congrArg (Value.int .i64) (wrap64_succ (i := j) (m := 1000000) (by omega) (by decide)), by omega, by omega, HI2.out, H6.out⟩
        · have HA := Lib.hid (add_st H5.out 0 rfl HJ.out.1.srt hlm ⟨rk, ⟨rp, rl, rn⟩, rd, rf, re, rb⟩ HKS.out.1)
          obtain ⟨l2, hl2⟩ : ∃ l2, (addP 64 l ⟨rk, ⟨rp, rl, rn⟩, rd, rf, re, rb⟩).1 = l2 := ⟨_, rfl⟩
          obtain ⟨r2, hr2⟩ : ∃ r2, (addP 64 l ⟨rk, ⟨rp, rl, rn⟩, rd, rf, re, rb⟩).2 = r2 := ⟨_, rfl⟩
          have HI2 := Lib.hid (show HInv 64 l2 from hl2 ▸ HJ.out.1.add _)
          rw [hl2, hr2] at HA
          unfold eRc at HA
          dsimp only at HA
          clear hl2 hr2 hlm
          have hk' : (ok == 1) = false := by simpa using hk
          clear hk
          go_wp2_with fail
          refine HA.out.mono ?_
          rintro e w5 ⟨rfl, S', S6⟩
          have H6 := Lib.hid ((show St (fun _ => False) W w5 ([hO g S' 64 l2] ++ [_]) from S6).drop 1)
          clear S6 HA H5 d0 d1 d2 d3 d4 d5 d6 d7 d8 d9 hk'
          go_wp2_with fail
          go_roundg (i - j)
          case measure => have := HJ.out; omega
          case rel => have := HJ.out; have := HI.out.2.1; exact ⟨j + 1, l2, S', congrArg (Value.int .i64) (wrap64_succ (i := j) (m := 1000000) (by omega) (by decide)), by omega, by omega, HI2.out, H6.out⟩
      · have hjl' : ¬ (j : Int) < (i : Int) := by omega
        clear hjl
        go_wp2_with fail
        go_meet
        exact ⟨l, S, HJ.out.1, H4.out⟩
  case rest =>
    obtain ⟨l, S, hI, S4⟩ := hcut
    have HJ := Lib.hid hI
    have HM := Lib.hid (missing_st S4 0 rfl (fun x hx => (hI.good x hx).h) (by have := hI.len; omega) HU.out.1 HU.out.2.2 HUL.out (cu := cu))
    rw [HNU.out] at HM
    clear hI S4 H3
    go_wp2_with fail
    refine HM.out.mono ?_
    rintro e w6 ⟨v, rfl, S6⟩
    obtain ⟨A6, c6, rfl⟩ := Kd.R_slice (S6.get 1 rfl).1
    obtain ⟨ss, hss⟩ : ∃ ss, misL up l = ss := ⟨_, rfl⟩
    obtain ⟨N, hN⟩ : ∃ N, ss.length = N := ⟨_, rfl⟩
    have hNb : N ≤ 128 := by have h1 := misL_len up l; have h2 := HJ.out.len; rw [hss] at h1; omega
    rw [hss] at S6
    have HSS := Lib.hid hss
    have HNN := Lib.hid hN
    have H6 := Lib.hid (show St (fun _ => False) W w6 [hO g S 64 l, slc k43 43 (.slice A6 N c6) ss] from hN ▸ S6)
    rw [hss, hN]
    clear S6 HM hN hss
    go_upto_block 2 with fail
    go_cut [] (fun wx => ∃ (l' : List Hn) (S : Nat → Prop), HInv 64 l' ∧ Rl l l' (toldD ss) ∧ St (fun _ => False) W wx [hO g S 64 l'])
    case first =>
      go_wp2_with fail
      go_loopg [61] (N + 1) (fun m v47 wx => ∃ (q : Nat) (l' : List Hn) (S : Nat → Prop), v47 = .int .i64 q ∧ q ≤ N ∧ N - q < m ∧ HInv 64 l' ∧ Rl l l' (toldD (ss.take q)) ∧ St (fun _ => False) W wx [hO g S 64 l', slc k43 43 (.slice A6 N c6) ss])
      case atStart => exact ⟨0, l, S, rfl, by omega, by omega, HJ.out, (Rl.refl l).congr (fun k m => by simp [toldD]), H6.out⟩
      case round =>
        clear H6
        obtain ⟨q, l', S, rfl, hq, hqm, hI', hR, S7⟩ := hrel
        by_cases hql : q < N
        · have hql' : (q : Int) < (N : Int) := by omega
          have hq0 : (0 : Int) ≤ (q : Int) := by omega
          obtain ⟨x, hx⟩ : ∃ x, ss[q]? = some x := ⟨_, List.getElem?_eq_getElem (by rw [HNN.out]; exact hql)⟩
          have hT := told_step (up := up) HJ.out hI' HU.out.2.2 (j := q) (s := x) (by rw [HSS.out]; exact hx) (by rw [HSS.out]; exact hR)
          rw [HSS.out] at hT
          obtain ⟨gb, cb, hv, _, _⟩ := slc_form (S7.get 1 rfl) (by rw [HNN.out]; omega)
          cases hv
          obtain ⟨n, ⟨rk, ⟨rp, rl, rn⟩, rd, rf, re, rb⟩⟩ := x
          have E : ∀ c, c < 9 → wr.cell? ⟨gb, q * 9 + c, none⟩ = (eSd ⟨n, ⟨rk, ⟨rp, rl, rn⟩, rd, rf, re, rb⟩⟩)[c]? := fun c hc => (S7.elem flSd 1 rfl (i := q) (c := c) hx hc).1
          have u0 : wr.cell? ⟨gb, q * 9, none⟩ = some (.int .u8 n) := E 0 (by decide)
          have u1 : wr.cell? ⟨gb, q * 9 + 1, none⟩ = some (.string rk) := E 1 (by decide)
          have u2 : wr.cell? ⟨gb, q * 9 + 2, none⟩ = some (.int .u64 rp) := E 2 (by decide)
          have u3 : wr.cell? ⟨gb, q * 9 + 3, none⟩ = some (.int .u32 rl) := E 3 (by decide)
          have u4 : wr.cell? ⟨gb, q * 9 + 4, none⟩ = some (.int .u8 rn) := E 4 (by decide)
          have u5 : wr.cell? ⟨gb, q * 9 + 5, none⟩ = some (.int .u8 rd) := E 5 (by decide)
          have u6 : wr.cell? ⟨gb, q * 9 + 6, none⟩ = some (.int .u32 rf) := E 6 (by decide)
          have u7 : wr.cell? ⟨gb, q * 9 + 7, none⟩ = some (.int .u64 re) := E 7 (by decide)
          have u8 : wr.cell? ⟨gb, q * 9 + 8, none⟩ = some (.string rb) := E 8 (by decide)
          have HQ := Lib.hid (And.intro hq (And.intro hqm (And.intro hI' hT)))
          have H7 := Lib.hid S7
          have HXX := Lib.hid hx
          clear S7 E hx hR hI' hq hqm hT
          dsimp only at HQ
          go_upto_region 14 with fail
          have S8 := H7.out.new' #[.int .u8 n, .string rk, .int .u64 rp, .int .u32 rl, .int .u8 rn, .int .u8 rd, .int .u32 rf, .int .u64 re, .string rb] 43 wr.heap.size rfl
          obtain ⟨z, hz⟩ : ∃ z, wr.heap.size = z := ⟨_, rfl⟩
          rw [hz] at S8 ⊢
          clear hz
          generalize World.alloc wr _ = w8 at *
          have H8 := Lib.hid S8
          have d0 : w8.cell? ⟨z, 0, none⟩ = some (.int .u8 n) := S8.cell 2 rfl 0
          have d1 : w8.cell? ⟨z, 1, none⟩ = some (.string rk) := S8.cell 2 rfl 1
          have HO := Lib.hid (rowns_c rk (by have := HQ.out.2.2.2.2.2.1; omega) up HUL.out HU.out.2.2 n Au cu w8 (Kd.C_below HU.out.1 S8.base) HU.out.2.1)
          rw [decide_eq_true HQ.out.2.2.2.1, HNU.out] at HO
          clear S8 H7 u0 u1 u2 u3 u4 u5 u6 u7 u8
          go_wp2_with fail
          refine HO.out.mono ?_
          rintro e w9 ⟨rfl, b9⟩
          have S9 := H8.out.below b9
          have H9 := Lib.hid S9
          have d0 : w9.cell? ⟨z, 0, none⟩ = some (.int .u8 n) := S9.cell 2 rfl 0
          have d1 : w9.cell? ⟨z, 1, none⟩ = some (.string rk) := S9.cell 2 rfl 1
          have d2 : w9.cell? ⟨z, 2, none⟩ = some (.int .u64 rp) := S9.cell 2 rfl 2
          have d3 : w9.cell? ⟨z, 3, none⟩ = some (.int .u32 rl) := S9.cell 2 rfl 3
          have d4 : w9.cell? ⟨z, 4, none⟩ = some (.int .u8 rn) := S9.cell 2 rfl 4
          have HA := Lib.hid (ack_st S9 0 rfl HQ.out.2.2.1.srt (by have := HQ.out.2.2.1.len; omega) rk ⟨rp, rl, rn⟩ n HQ.out.2.2.2.2.1)
          rw [HQ.out.2.2.2.2.2.2.1] at HA
          have HI2 := Lib.hid (And.intro (HQ.out.2.2.1.ack rk ⟨rp, rl, rn⟩ n) HQ.out.2.2.2.2.2.2.2)
          obtain ⟨l2, hl2⟩ : ∃ l2, ackL l' rk ⟨rp, rl, rn⟩ n = l2 := ⟨_, rfl⟩
          rw [hl2] at HA HI2
          unfold eStp at HA
          dsimp only at HA
          clear hl2 S9 H8 HO b9
          go_wp2_with fail
          refine HA.out.mono ?_
          rintro e w5 ⟨rfl, S', S6⟩
          have H6 := Lib.hid ((show St (fun _ => False) W w5 ([hO g S' 64 l2, slc k43 43 (.slice (some ⟨gb, 0, none⟩) ss.length c6) ss] ++ [_]) from S6).drop 2)
          clear S6 HA H9 d0 d1 d2 d3 d4
          go_wp2_with fail
          go_roundg (ss.length - q)
          case measure => have := HQ.out.2.1; omega
          case rel => have := HQ.out.1; exact ⟨q + 1, l2, S', by go_num, by omega, by omega, HI2.out.1, HI2.out.2, H6.out⟩
        · have hql' : ¬ (q : Int) < (N : Int) := by omega
          have e : q = N := by omega
          have e2 : ss.take q = ss := by rw [e, ← HNN.out, List.take_length]
          rw [e2] at hR
          have HQ := Lib.hid (And.intro hI' hR)
          have H7 := Lib.hid (S7.drop 1)
          clear S7 hql hR hI' e e2 hq hqm
          go_wp2_with fail
          go_meet
          exact ⟨l', S, HQ.out.1, HQ.out.2, H7.out⟩
    case rest =>
      clear H6
      obtain ⟨l', S, hI', hR, S7⟩ := hcut
      have hE := told_end hI' HU.out.2.2 (by rw [HSS.out]; exact hR)
      have HL := Lib.hid (len_c S7 0 rfl)
      have HO := Lib.hid (rown_c ⟨#[97]⟩ (by decide) up HUL.out HU.out.2.2 Au cu _ (Kd.C_below HU.out.1 S7.base) HU.out.2.1)
      have HIS := Lib.hid (And.intro hI' hE)
      obtain ⟨n', hn'⟩ : ∃ n', l'.length = n' := ⟨_, rfl⟩
      rw [hn'] at HL
      rw [HNU.out] at HO
      have HN' := Lib.hid hn'
      have H7 := Lib.hid S7
      clear S7 hR hI' hE hn'
      go_wp2_with fail
      refine HL.out.mono ?_
      rintro e w8 ⟨rfl, rfl⟩
      go_wp2_with fail
      refine HO.out.mono ?_
      rintro e w9 ⟨v, rfl, S9⟩
      obtain ⟨A9, c9, rfl⟩ := Kd.R_slice (S9.get 0 rfl).1
      have H9 := Lib.hid (H7.out.below S9.base)
      clear S9 HO H7 HL
      have hl6 : l'.length ≤ 1000000 := by have := HIS.out.1.len; omega
      have HST := Lib.hid (fun w S (h : St (fun _ => False) W w [hO g S 64 l']) => settle_st h 0 rfl (fun x hx => (HIS.out.1.good x hx).h) hl6 HU.out.1 HU.out.2.2 HUL.out (cu := cu))
      rw [HNU.out] at HST
      clear hl6
      by_cases ho : own ⟨#[97]⟩ up = []
      · rw [ho, List.length_nil]
        rw [HIS.out.2.2.2 ho] at HST
        go_wp2_with fail
        refine (HST.out _ _ H9.out).mono ?_
        rintro e w10 ⟨rfl, S', S10⟩
        rw [Int.sub_self]
        have HL := Lib.hid (len_c (show St (fun _ => False) W w10 [hO g S' 64 l'] from S10) 0 rfl)
        rw [HN'.out] at HL
        have H10 := Lib.hid S10
        clear S10 HST H9
        go_wp2_with fail
        refine HL.out.mono ?_
        rintro e w11 ⟨rfl, rfl⟩
        go_wp2_with fail
        go_ret
        exact ⟨rfl, H10.out.base⟩
      · obtain ⟨k, hk⟩ : ∃ k, (own ⟨#[97]⟩ up).length = k := ⟨_, rfl⟩
        have hk0 : ((k : Int) == 0) = false := by
          have : k ≠ 0 := fun e => ho (List.eq_nil_of_length_eq_zero (hk.trans e))
          simpa using this
        rw [hk]
        rw [HIS.out.2.2.1 ho] at HST
        have HM := Lib.hid (missing_st H9.out 0 rfl (fun x hx => (HIS.out.1.good x hx).h) (by have := HIS.out.1.len; omega) HU.out.1 HU.out.2.2 HUL.out (cu := cu))
        rw [HNU.out, HIS.out.2.1] at HM
        clear hk ho
        go_wp2_with fail
        refine HM.out.mono ?_
        rintro e w10 ⟨v, rfl, S10⟩
        obtain ⟨A10, c10, rfl⟩ := Kd.R_slice (S10.get 1 rfl).1
        rw [List.length_nil]
        have HS := Lib.hid (HST.out _ _ (show St (fun _ => False) W w10 [hO g S 64 l'] from S10.drop 1))
        clear HST S10 HM H9 hk0
        go_wp2_with fail
        refine HS.out.mono ?_
        rintro e w11 ⟨rfl, S', S11⟩
        rw [HN'.out, List.length_nil, show ((n' : Int) - ((0 : Nat) : Int)) = n' by omega]
        have HL := Lib.hid (len_c (show St (fun _ => False) W w11 [hO g S' 64 []] from S11) 0 rfl)
        rw [List.length_nil] at HL
        have H11 := Lib.hid S11
        clear S11 HS
        go_wp2_with fail
        refine HL.out.mono ?_
        rintro e w12 ⟨rfl, rfl⟩
        go_wp2_with fail
        go_ret
        exact ⟨rfl, H11.out.base⟩
end Go.Proofs.Ytmpodcefngpnkaa
