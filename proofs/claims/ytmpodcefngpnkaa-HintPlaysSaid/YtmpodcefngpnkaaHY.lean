/- HintPlays. -/
import Derived.Test.YtmpodcefngpnkaaHRm
import Derived.Test.YtmpodcefngpnkaaHU
set_option linter.unusedVariables false
set_option linter.unusedSimpArgs false
namespace Go.Proofs.Ytmpodcefngpnkaa
open Go.RowKit Go.Tat Go.Proofs.YtmpodcefngpnkaaW.PrintWords PHintPlays
theorem slc_cap {α : Type} {d : Kd α} {e : Nat} {A : Option Addr} {n c : Nat} {w : World} {xs : List α} (h : (slc d e (.slice A n c) xs).holds w) : xs.length ≤ c := by
  obtain ⟨A', c', hv, hc, _⟩ := Kd.R_reads h.1
  cases hv
  exact hc
theorem new_bad' {w : World} (n : Int) (hb : n < 1 ∨ 64 < n) : Calls Try.prog 8 #[.int .i64 n] w fun e w' => e = .returned (.tuple #[.pointer none, .int .i64 1]) ∧ w' = w := new_bad n (by omega)
set_option maxRecDepth 100000 in
theorem plays_bad (n : Int) (hb : n < 1 ∨ 64 < n) (ops : List Oq) (A : Option Addr) (c : Nat) (W : World) :
    Calls Try.prog 5 #[.int .i64 n, .slice A ops.length c] W fun e w' => e = .returned (.bool true) ∧ Below W.heap.size W w' := by
  have HN := Lib.hid (new_bad' (w := W) n hb)
  obtain ⟨b, hbb⟩ : ∃ b, (decide (1 ≤ n) && decide (n ≤ 64)) = b := ⟨_, rfl⟩
  by_cases h1 : n < 1
  · clear hb
    go_enter Try.func5, Try.ntmps5
    go_wp2_with fail
    refine HN.out.mono ?_
    rintro e w1 ⟨rfl, rfl⟩
    go_wp2_with fail
    refine (fixed_c _).mono ?_
    rintro e w2 ⟨rfl, b2⟩
    have B2 := Lib.hid b2
    clear b2 HN
    go_wp2_with fail
    go_ret
    exact ⟨rfl, B2.out⟩
  · have h2 : 64 < n := by omega
    clear hb
    go_enter Try.func5, Try.ntmps5
    go_wp2_with fail
    refine HN.out.mono ?_
    rintro e w1 ⟨rfl, rfl⟩
    go_wp2_with fail
    refine (fixed_c _).mono ?_
    rintro e w2 ⟨rfl, b2⟩
    have B2 := Lib.hid b2
    clear b2 HN
    go_wp2_with fail
    go_ret
    exact ⟨rfl, B2.out⟩
set_option maxRecDepth 100000 in
set_option maxHeartbeats 16000000 in
theorem plays_good (n : Int) (hn : 1 ≤ n ∧ n ≤ 64) (ops : List Oq) (A : Option Addr) (c : Nat) (W : World) (hC : k37.C W A ops.length ops) (hc : ops.length ≤ c) (hgo : ∀ o ∈ ops, (0 ≤ o.f2 ∧ o.f2 < 256) ∧ ∀ y ∈ o.f3, 0 ≤ y ∧ y < 256) :
    Calls Try.prog 5 #[.int .i64 n, .slice A ops.length c] W fun e w' => e = .returned (.bool true) ∧ Below W.heap.size W w' := by
  have HC := Lib.hid (And.intro hC hgo)
  have HNB := Lib.hid hn
  have hn0 := hn.1
  have hn1 := hn.2
  have HN := Lib.hid (new_st (St.nil (fun _ => False) W) n hn)
  have HCU := Lib.hid (fun w (b : Below W.heap.size W w) => cut_c ops A c w (Kd.C_below hC b) hc)
  clear hC hgo hn
  go_enter Try.func5, Try.ntmps5
  go_wp2_with fail
  refine HN.out.mono ?_
  rintro e w1 ⟨g, S, rfl, S1⟩
  have H1 := Lib.hid (show St (fun _ => False) W w1 [hO g S n []] from S1)
  clear S1 HN
  go_wp2_with fail
  refine (fixed_c _).mono ?_
  rintro e w2 ⟨rfl, b2⟩
  have H2 := Lib.hid (H1.out.below b2)
  clear b2 H1
  go_wp2_with fail
  refine (HCU.out _ H2.out.base).mono ?_
  rintro e w3 ⟨i, rfl, hi, hi8, hcb, b3⟩
  have H3 := Lib.hid ((H2.out.below b3).nils kRf 87)
  have HI := Lib.hid (And.intro hi (And.intro hi8 hcb))
  clear b3 H2 HCU hi hi8 hcb hn0 hn1
  go_wp2_with fail
  go_loopg [8, 46] (i + 1) (fun m v8 v46 wx => ∃ (j : Nat) (l : List Hn) (S : Nat → Prop), v46 = .int .i64 j ∧ j ≤ i ∧ i - j < m ∧ HInv n l ∧ St (fun _ => False) W wx [hO g S n l, slc kRf 87 v8 l])
  case atStart => exact ⟨0, [], S, rfl, by omega, by omega, HInv.nil n (by have := HNB.out; omega), H3.out⟩
  case round =>
    clear H3
    obtain ⟨j, l, S, rfl, hj, hjm, hI, S7⟩ := hrel
    obtain ⟨vA, vc, rfl⟩ := Kd.R_slice (S7.get 1 rfl).1
    have H7 := Lib.hid S7
    have HJ := Lib.hid (And.intro hI (And.intro hj hjm))
    clear hI hj hjm S7
    by_cases hjl : j < i
    · have hjl' : (j : Int) < (i : Int) := by omega
      have hj0 : (0 : Int) ≤ (j : Int) := by omega
      obtain ⟨x, hx⟩ : ∃ x, ops[j]? = some x := ⟨_, List.getElem?_eq_getElem (by have := HI.out.1; omega)⟩
      have hxb := HI.out.2.2 x (List.mem_of_getElem? (i := j) (by rw [List.getElem?_take_of_lt hjl]; exact hx))
      have hgn := HC.out.2 x (List.mem_of_getElem? hx)
      obtain ⟨ad, b, o, cs, rfl, had, hb, hK, hcs⟩ := C_at HC.out.1 hx (by decide)
      obtain ⟨ok, ⟨rk, ⟨rp, rl, rn⟩, rd, rf, re, rb⟩, on, up⟩ := x
      obtain ⟨Au, cu, rfl, hul, hup⟩ := k37_open hK
      dsimp only at hcs hul hup hgn
      have hBw := H7.out.base
      have c0 := (hBw.cell (p := ⟨b, o, none⟩) hb).trans (hcs 0 _ rfl)
      have c1 := (hBw.cell (p := ⟨b, o + 1, none⟩) hb).trans (hcs 1 _ rfl)
      have c2 := (hBw.cell (p := ⟨b, o + 2, none⟩) hb).trans (hcs 2 _ rfl)
      have c3 := (hBw.cell (p := ⟨b, o + 3, none⟩) hb).trans (hcs 3 _ rfl)
      have c4 := (hBw.cell (p := ⟨b, o + 4, none⟩) hb).trans (hcs 4 _ rfl)
      have c5 := (hBw.cell (p := ⟨b, o + 5, none⟩) hb).trans (hcs 5 _ rfl)
      have c6 := (hBw.cell (p := ⟨b, o + 6, none⟩) hb).trans (hcs 6 _ rfl)
      have c7 := (hBw.cell (p := ⟨b, o + 7, none⟩) hb).trans (hcs 7 _ rfl)
      have c8 := (hBw.cell (p := ⟨b, o + 8, none⟩) hb).trans (hcs 8 _ rfl)
      have c9 := (hBw.cell (p := ⟨b, o + 9, none⟩) hb).trans (hcs 9 _ rfl)
      have c10 := (hBw.cell (p := ⟨b, o + 10, none⟩) hb).trans (hcs 10 _ rfl)
      have had' : ad.add (j * 11) = ⟨b, o, none⟩ := had
      have HX := Lib.hid (And.intro hxb (And.intro hgn (And.intro hul hup)))
      clear hK hcs had hx hBw hup hxb hul hgn
      dsimp only [cutB] at HX
      go_upto_region 11 with fail
      have S8 := H7.out.new' #[.int .i64 ok, .string rk, .int .u64 rp, .int .u32 rl, .int .u8 rn, .int .u8 rd, .int .u32 rf, .int .u64 re, .string rb, .int .u8 on, .slice Au up.length cu] 37 wr.heap.size rfl
      obtain ⟨zo, hzo⟩ : ∃ zo, wr.heap.size = zo := ⟨_, rfl⟩
      rw [hzo] at S8 ⊢
      clear hzo
      generalize World.alloc wr _ = w8 at *
      obtain ⟨nup, hnup⟩ : ∃ nup, up.length = nup := ⟨_, rfl⟩
      have HNU := Lib.hid hnup
      have S8' : St (fun _ => False) W w8 [hO g S n l, blk zo #[.int .i64 ok, .string rk, .int .u64 rp, .int .u32 rl, .int .u8 rn, .int .u8 rd, .int .u32 rf, .int .u64 re, .string rb, .int .u8 on, .slice Au nup cu] 37, slc kRf 87 (.slice vA l.length vc) l] := S8.perm (by rw [← hnup]; exact List.Perm.cons _ (List.Perm.swap _ _ _))
      have H8 := Lib.hid S8'
      have d0 : w8.cell? ⟨zo, 0, none⟩ = some (.int .i64 ok) := S8'.cell 1 rfl 0
      have HLm := Lib.hid (show l.length ≤ 1000000 ∧ l.length ≤ 64 by have := HJ.out.1.len; have := HNB.out; omega)
      have HKS := Lib.hid (show rk.size < 4611686018427387904 by have := HX.out.1.1; omega)
      clear S8 S8' H7 c0 c1 c2 c3 c4 c5 c6 c7 c8 c9 c10 had' hnup
      obtain ⟨NL, hNL⟩ : ∃ NL, l.length = NL := ⟨_, rfl⟩
      have HNL := Lib.hid hNL
      rw [hNL] at H8 ⊢
      clear hNL
      go_upto_block 2 with fail
      go_cut [8] (fun v8 wx => ∃ (l : List Hn) (S : Nat → Prop), HInv n l ∧ St (fun _ => False) W wx [hO g S n l, slc kRf 87 v8 l])
      case first =>
        rcases (show ok = 0 ∨ ok = 1 ∨ ok = 2 ∨ (ok ≠ 0 ∧ ok ≠ 1 ∧ ok ≠ 2) by omega) with rfl | rfl | rfl | ⟨hk0, hk1, hk2⟩
        · have S8 := H8.out
          have d0 : w8.cell? ⟨zo, 0, none⟩ = some (.int .i64 0) := S8.cell 1 rfl 0
          have d1 : w8.cell? ⟨zo, 1, none⟩ = some (.string rk) := S8.cell 1 rfl 1
          have d2 : w8.cell? ⟨zo, 2, none⟩ = some (.int .u64 rp) := S8.cell 1 rfl 2
          have d3 : w8.cell? ⟨zo, 3, none⟩ = some (.int .u32 rl) := S8.cell 1 rfl 3
          have d4 : w8.cell? ⟨zo, 4, none⟩ = some (.int .u8 rn) := S8.cell 1 rfl 4
          have d5 : w8.cell? ⟨zo, 5, none⟩ = some (.int .u8 rd) := S8.cell 1 rfl 5
          have d6 : w8.cell? ⟨zo, 6, none⟩ = some (.int .u32 rf) := S8.cell 1 rfl 6
          have d7 : w8.cell? ⟨zo, 7, none⟩ = some (.int .u64 re) := S8.cell 1 rfl 7
          have d8 : w8.cell? ⟨zo, 8, none⟩ = some (.string rb) := S8.cell 1 rfl 8
          have HRA := Lib.hid (radd_c l HJ.out.1 ⟨rk, ⟨rp, rl, rn⟩, rd, rf, re, rb⟩ HX.out.1.1 HX.out.1.2.1 (by have := HNB.out; omega) vA vc w8 (HNL.out ▸ (Kd.R_reads' (S8.get 2 rfl).1).2.2))
          obtain ⟨l9, hl9⟩ : ∃ l', (addP n l ⟨rk, ⟨rp, rl, rn⟩, rd, rf, re, rb⟩).1 = l' := ⟨_, rfl⟩
          obtain ⟨e9, he9⟩ : ∃ e', (addP n l ⟨rk, ⟨rp, rl, rn⟩, rd, rf, re, rb⟩).2 = e' := ⟨_, rfl⟩
          have HI9 := Lib.hid (show HInv n l9 from hl9 ▸ HJ.out.1.add _)
          have HLE := Lib.hid (And.intro hl9 he9)
          rw [HNL.out, hl9, he9] at HRA
          unfold eRc at HRA
          dsimp only at HRA
          clear hl9 he9 S8
          go_wp2_with fail
          refine HRA.out.mono ?_
          rintro e w9 ⟨v9, rfl, r9⟩
          have S9 := rres_st (HNL.out ▸ H8.out) r9
          clear d0 d1 d2 d3 d4 d5 d6 d7 d8
          have d0 : w9.cell? ⟨zo, 0, none⟩ = some (.int .i64 0) := S9.cell 1 rfl 0
          have d1 : w9.cell? ⟨zo, 1, none⟩ = some (.string rk) := S9.cell 1 rfl 1
          have d2 : w9.cell? ⟨zo, 2, none⟩ = some (.int .u64 rp) := S9.cell 1 rfl 2
          have d3 : w9.cell? ⟨zo, 3, none⟩ = some (.int .u32 rl) := S9.cell 1 rfl 3
          have d4 : w9.cell? ⟨zo, 4, none⟩ = some (.int .u8 rn) := S9.cell 1 rfl 4
          have d5 : w9.cell? ⟨zo, 5, none⟩ = some (.int .u8 rd) := S9.cell 1 rfl 5
          have d6 : w9.cell? ⟨zo, 6, none⟩ = some (.int .u32 rf) := S9.cell 1 rfl 6
          have d7 : w9.cell? ⟨zo, 7, none⟩ = some (.int .u64 re) := S9.cell 1 rfl 7
          have d8 : w9.cell? ⟨zo, 8, none⟩ = some (.string rb) := S9.cell 1 rfl 8
          have HA := Lib.hid (add_st S9 0 rfl HJ.out.1.srt HLm.out.1 ⟨rk, ⟨rp, rl, rn⟩, rd, rf, re, rb⟩ HKS.out)
          rw [HLE.out.1, HLE.out.2] at HA
          unfold eRc at HA
          dsimp only at HA
          clear S9 r9 HRA H8
          go_wp2_with fail
          refine HA.out.mono ?_
          rintro e w10 ⟨rfl, S', S10⟩
          have H10 := Lib.hid (show St (fun _ => False) W w10 [hO g S' n l9, blk zo #[.int .i64 0, .string rk, .int .u64 rp, .int .u32 rl, .int .u8 rn, .int .u8 rd, .int .u32 rf, .int .u64 re, .string rb, .int .u8 on, .slice Au nup cu] 37, slc kRf 87 v9 l9] from S10)
          clear S10 HA d0 d1 d2 d3 d4 d5 d6 d7 d8
          go_wp2_with fail
          go_meet
          exact ⟨l9, S', HI9.out, H10.out.drop 1⟩
        · have S8 := H8.out
          have d0 : w8.cell? ⟨zo, 0, none⟩ = some (.int .i64 1) := S8.cell 1 rfl 0
          have d1 : w8.cell? ⟨zo, 1, none⟩ = some (.string rk) := S8.cell 1 rfl 1
          have d2 : w8.cell? ⟨zo, 2, none⟩ = some (.int .u64 rp) := S8.cell 1 rfl 2
          have d3 : w8.cell? ⟨zo, 3, none⟩ = some (.int .u32 rl) := S8.cell 1 rfl 3
          have d4 : w8.cell? ⟨zo, 4, none⟩ = some (.int .u8 rn) := S8.cell 1 rfl 4
          have d9 : w8.cell? ⟨zo, 9, none⟩ = some (.int .u8 on) := S8.cell 1 rfl 9
          by_cases hn : 64 ≤ on
          · have HRA := Lib.hid (rack_high l HJ.out.1.srt rk ⟨rp, rl, rn⟩ on hn vA vc w8 (HNL.out ▸ (Kd.R_reads' (S8.get 2 rfl).1).2.2) HLm.out.1)
            rw [HNL.out] at HRA
            unfold eStp at HRA
            dsimp only at HRA
            have HON := Lib.hid hn
            clear S8 hn
            go_wp2_with fail
            refine HRA.out.mono ?_
            rintro e w9 ⟨v9, rfl, r9⟩
            have S9 := rres_st (HNL.out ▸ H8.out) r9
            clear d0 d1 d2 d3 d4 d9
            have d0 : w9.cell? ⟨zo, 0, none⟩ = some (.int .i64 1) := S9.cell 1 rfl 0
            have d1 : w9.cell? ⟨zo, 1, none⟩ = some (.string rk) := S9.cell 1 rfl 1
            have d2 : w9.cell? ⟨zo, 2, none⟩ = some (.int .u64 rp) := S9.cell 1 rfl 2
            have d3 : w9.cell? ⟨zo, 3, none⟩ = some (.int .u32 rl) := S9.cell 1 rfl 3
            have d4 : w9.cell? ⟨zo, 4, none⟩ = some (.int .u8 rn) := S9.cell 1 rfl 4
            have d9 : w9.cell? ⟨zo, 9, none⟩ = some (.int .u8 on) := S9.cell 1 rfl 9
            have HA := Lib.hid (ack_high g rk ⟨rp, rl, rn⟩ on HON.out w9)
            unfold eStp at HA
            dsimp only at HA
            have H9 := Lib.hid S9
            clear S9 r9 HRA H8
            go_wp2_with fail
            refine HA.out.mono ?_
            rintro e w10 ⟨rfl, b10⟩
            have H10 := Lib.hid (H9.out.below b10)
            clear b10 HA H9 d0 d1 d2 d3 d4 d9
            go_wp2_with fail
            go_meet
            exact ⟨l, S, HJ.out.1, H10.out.drop 1⟩
          · have HRA := Lib.hid (rack_c l HJ.out.1 (by have := HNB.out; omega) rk ⟨rp, rl, rn⟩ on ⟨HX.out.2.1.1.1, by omega⟩ vA vc w8 (HNL.out ▸ (Kd.R_reads' (S8.get 2 rfl).1).2.2))
            have HON := Lib.hid hn
            obtain ⟨l9, hl9⟩ : ∃ l', ackL l rk ⟨rp, rl, rn⟩ on = l' := ⟨_, rfl⟩
            obtain ⟨e9, he9⟩ : ∃ e', ackB l rk ⟨rp, rl, rn⟩ on = e' := ⟨_, rfl⟩
            have HI9 := Lib.hid (show HInv n l9 from hl9 ▸ HJ.out.1.ack _ _ _)
            have HLE := Lib.hid (And.intro hl9 he9)
            rw [HNL.out, hl9, he9] at HRA
            unfold eStp at HRA
            dsimp only at HRA
            clear S8 hn hl9 he9
            go_wp2_with fail
            refine HRA.out.mono ?_
            rintro e w9 ⟨v9, rfl, r9⟩
            have S9 := rres_st (HNL.out ▸ H8.out) r9
            clear d0 d1 d2 d3 d4 d9
            have d0 : w9.cell? ⟨zo, 0, none⟩ = some (.int .i64 1) := S9.cell 1 rfl 0
            have d1 : w9.cell? ⟨zo, 1, none⟩ = some (.string rk) := S9.cell 1 rfl 1
            have d2 : w9.cell? ⟨zo, 2, none⟩ = some (.int .u64 rp) := S9.cell 1 rfl 2
            have d3 : w9.cell? ⟨zo, 3, none⟩ = some (.int .u32 rl) := S9.cell 1 rfl 3
            have d4 : w9.cell? ⟨zo, 4, none⟩ = some (.int .u8 rn) := S9.cell 1 rfl 4
            have d9 : w9.cell? ⟨zo, 9, none⟩ = some (.int .u8 on) := S9.cell 1 rfl 9
            have HA := Lib.hid (ack_st S9 0 rfl HJ.out.1.srt HLm.out.1 rk ⟨rp, rl, rn⟩ on ⟨HX.out.2.1.1.1, by have := HON.out; omega⟩)
            rw [HLE.out.1, HLE.out.2] at HA
            unfold eStp at HA
            dsimp only at HA
            clear S9 r9 HRA H8
            go_wp2_with fail
            refine HA.out.mono ?_
            rintro e w10 ⟨rfl, S', S10⟩
            have H10 := Lib.hid (show St (fun _ => False) W w10 [hO g S' n l9, blk zo #[.int .i64 1, .string rk, .int .u64 rp, .int .u32 rl, .int .u8 rn, .int .u8 rd, .int .u32 rf, .int .u64 re, .string rb, .int .u8 on, .slice Au nup cu] 37, slc kRf 87 v9 l9] from S10)
            clear S10 HA d0 d1 d2 d3 d4 d9
            cases e9 <;>
            · go_wp2_with fail
              go_meet
              exact ⟨l9, S', HI9.out, H10.out.drop 1⟩
        · have S8 := H8.out
          have HG := Lib.hid (fun x (hx : x ∈ l) => (HJ.out.1.good x hx).h)
          have HUP := Lib.hid (show up.length ≤ 1000000 by have := HX.out.1.2.2; omega)
          clear d0
          go_upto_region 27 with fail
          refine wp_region_held_drew (S := (fun w' => w'.cell? ⟨zo, 10, none⟩ = some (.slice Au nup cu))) (by kernel_rfl) ?_ (fun hHeld => ?_)
          · (try dsimp only); exact S8.drew.cell 1 rfl 10
          refine wpAnyH_take (i := 0) (oi := ({ dst := some 112, op := Go.Op.move (Go.Operand.tmp 5), type := 24, pos := "law.go:69", after := #[], guard := none } : Oper)) (v := ?_) rfl (by kernel_rfl) (by kernel_rfl) (by kernel_rfl) (fun _ _ _ h => h) (Or.inl ⟨by rfl, ?_⟩) (by assumption) ?_
          rotate_left
          · (intro w hSw; (try dsimp only at hSw); go_simp; first | done | with_reducible rfl)
          try simp only [Act.put, List.setIfInBounds_toArray, List.set_cons_zero, List.set_cons_succ]
          refine wpAnyH_take (i := 1) (oi := ({ dst := some 113, op := Go.Op.fieldAddr 37 (Go.Operand.tmp 10) 3, type := 0, pos := "law.go:69", after := #[], guard := none } : Oper)) (v := ?_) rfl (by kernel_rfl) (by kernel_rfl) (by kernel_rfl) (fun _ _ _ h => h) (Or.inl ⟨by rfl, ?_⟩) (by assumption) ?_
          rotate_left
          · (intro w hSw; (try dsimp only at hSw); go_simp; first | done | with_reducible rfl)
          try simp only [Act.put, List.setIfInBounds_toArray, List.set_cons_zero, List.set_cons_succ]
          refine wpAnyH_take (i := 2) (oi := ({ dst := some 114, op := Go.Op.load 23 (Go.Operand.tmp 113), type := 23, pos := "law.go:69", after := #[{ on := 1, ground := Go.Ground.data }], guard := none } : Oper)) (v := ?_) rfl (by kernel_rfl) (by kernel_rfl) (by kernel_rfl) (fun _ _ _ h => h) (Or.inl ⟨by rfl, ?_⟩) (by assumption) ?_
          rotate_left
          · (intro w hSw; (try dsimp only at hSw); go_simp; first | done | with_reducible rfl)
          try simp only [Act.put, List.setIfInBounds_toArray, List.set_cons_zero, List.set_cons_succ]
          refine wpAnyH_take (i := 4) (oi := ({ dst := some 116, op := Go.Op.move (Go.Operand.tmp 8), type := 54, pos := "law.go:69", after := #[], guard := none } : Oper)) (v := ?_) rfl (by kernel_rfl) (by kernel_rfl) (by kernel_rfl) (fun _ _ _ h => h) (Or.inl ⟨by rfl, ?_⟩) (by assumption) ?_
          rotate_left
          · (intro w hSw; (try dsimp only at hSw); go_simp; first | done | with_reducible rfl)
          try simp only [Act.put, List.setIfInBounds_toArray, List.set_cons_zero, List.set_cons_succ]
          refine wpAnyH_take (i := 5) (oi := ({ dst := some 117, op := Go.Op.fieldAddr 37 (Go.Operand.tmp 10) 3, type := 0, pos := "law.go:69", after := #[], guard := none } : Oper)) (v := ?_) rfl (by kernel_rfl) (by kernel_rfl) (by kernel_rfl) (fun _ _ _ h => h) (Or.inl ⟨by rfl, ?_⟩) (by assumption) ?_
          rotate_left
          · (intro w hSw; (try dsimp only at hSw); go_simp; first | done | with_reducible rfl)
          try simp only [Act.put, List.setIfInBounds_toArray, List.set_cons_zero, List.set_cons_succ]
          refine wpAnyH_take (i := 6) (oi := ({ dst := some 118, op := Go.Op.load 23 (Go.Operand.tmp 117), type := 23, pos := "law.go:69", after := #[{ on := 5, ground := Go.Ground.data }], guard := none } : Oper)) (v := ?_) rfl (by kernel_rfl) (by kernel_rfl) (by kernel_rfl) (fun _ _ _ h => h) (Or.inl ⟨by rfl, ?_⟩) (by assumption) ?_
          rotate_left
          · (intro w hSw; (try dsimp only at hSw); go_simp; first | done | with_reducible rfl)
          try simp only [Act.put, List.setIfInBounds_toArray, List.set_cons_zero, List.set_cons_succ]
          have HM := Lib.hid (missing_st S8.drew 0 rfl HG.out HLm.out.1 HX.out.2.2.2 (fun y hy => HX.out.2.1.2 y hy) HUP.out (cu := cu))
          rw [HNU.out] at HM
          clear S8
          refine wpAnyH_ready (rs := [3]) (by kernel_rfl) (by simp) ?_
          refine AllReadyH.cons (o := ({ dst := some 115, op := Go.Op.call { callee := Go.Callee.value (Go.Operand.func 13), args := #[Go.Operand.tmp 112, Go.Operand.tmp 114], argTypes := #[24, 23] }, type := 40, pos := "law.go:69", after := #[{ on := 0, ground := Go.Ground.data }, { on := 2, ground := Go.Ground.data }], guard := none } : Oper)) rfl (fun K hK => ?_) AllReadyH.nil
          go_simp
          go_at_call 13
          refine HM.out.mono ?_
          rintro e w9 ⟨v1, rfl, S9⟩
          obtain ⟨A1, c1, rfl⟩ := Kd.R_slice (S9.get 3 rfl).1
          have H9 := Lib.hid S9
          clear S9 HM
          go_wp2_with fail
          refine hK.out _ _ ?_ (fun hHeld2 => ?_)
          · (try dsimp only); exact H9.out.cell 1 rfl 10
          clear hK K hHeld
          try simp only [Act.put, List.setIfInBounds_toArray, List.set_cons_zero, List.set_cons_succ]
          have HR2 := Lib.hid (rmis_c l HJ.out.1.good vA vc w9 (HNL.out ▸ (Kd.R_reads' (H9.out.get 2 rfl).1).2.2) (by have := HLm.out.2; omega) (Kd.C_below HX.out.2.2.2 H9.out.base) HX.out.2.2.1 (fun y hy => HX.out.2.1.2 y hy) HUP.out)
          rw [HNU.out, HNL.out] at HR2
          refine wpAnyH_ready (rs := [7]) (by kernel_rfl) (by simp) ?_
          refine AllReadyH.cons (o := ({ dst := some 119, op := Go.Op.call { callee := Go.Callee.value (Go.Operand.func 22), args := #[Go.Operand.tmp 116, Go.Operand.tmp 118], argTypes := #[54, 23] }, type := 40, pos := "law.go:69", after := #[{ on := 4, ground := Go.Ground.data }, { on := 6, ground := Go.Ground.data }, { on := 3, ground := Go.Ground.chain }], guard := none } : Oper)) rfl (fun K hK => ?_) AllReadyH.nil
          go_simp
          go_at_call 22
          refine HR2.out.mono ?_
          rintro e w10 ⟨v2, rfl, S10⟩
          obtain ⟨A2, c2, rfl⟩ := Kd.R_slice (S10.get 0 rfl).1
          have H10 := Lib.hid (H9.out.adds S10)
          clear S10 HR2 H9
          go_wp2_with fail
          refine hK.out _ _ ?_ (fun hHeld3 => ?_)
          · (try dsimp only); exact H10.out.cell 1 rfl 10
          clear hK K hHeld2
          try simp only [Act.put, List.setIfInBounds_toArray, List.set_cons_zero, List.set_cons_succ]
          have HS2 := Lib.hid (sends_c (misL up l) (by have := misL_len up l; have := HLm.out.2; omega) A1 A2 c1 c2 w10 (Kd.R_reads' (H10.out.get 3 rfl).1).2.2 (slc_cap (H10.out.get 3 rfl)) (Kd.R_reads' (H10.out.get 4 rfl).1).2.2 (slc_cap (H10.out.get 4 rfl)))
          refine wpAnyH_ready (rs := [8]) (by kernel_rfl) (by simp) ?_
          refine AllReadyH.cons (o := ({ dst := some 120, op := Go.Op.call { callee := Go.Callee.value (Go.Operand.func 21), args := #[Go.Operand.tmp 115, Go.Operand.tmp 119], argTypes := #[40, 40] }, type := 4, pos := "law.go:69", after := #[{ on := 3, ground := Go.Ground.data }, { on := 7, ground := Go.Ground.data }, { on := 7, ground := Go.Ground.chain }], guard := none } : Oper)) rfl (fun K hK => ?_) AllReadyH.nil
          go_simp
          go_at_call 21
          refine HS2.out.mono ?_
          rintro e w11 ⟨rfl, b11⟩
          have H11 := Lib.hid (H10.out.below b11)
          clear b11 HS2 H10
          go_wp2_with fail
          refine hK.out _ _ ?_ (fun hHeld4 => ?_)
          · (try dsimp only); exact H11.out.cell 1 rfl 10
          clear hK K hHeld3
          try simp only [Act.put, List.setIfInBounds_toArray, List.set_cons_zero, List.set_cons_succ]
          refine wpAnyH_take (i := 9) (oi := ({ dst := some 121, op := Go.Op.unOp Go.UnOp.not 4 (Go.Operand.tmp 120), type := 4, pos := "law.go:69", after := #[{ on := 8, ground := Go.Ground.data }], guard := none } : Oper)) (v := ?_) rfl (by kernel_rfl) (by kernel_rfl) (by kernel_rfl) (fun _ _ _ h => h) (Or.inl ⟨by rfl, ?_⟩) (by assumption) ?_
          rotate_left
          · (intro w hSw; (try dsimp only at hSw); go_simp; first | done | with_reducible rfl)
          try simp only [Act.put, List.setIfInBounds_toArray, List.set_cons_zero, List.set_cons_succ]
          refine wpAnyH_done (by kernel_rfl) ?_ _
          clear hHeld4
          go_wp2_with fail
          go_meet
          exact ⟨l, S, HJ.out.1, ((H11.out.drop 4).drop 3).drop 1⟩
        · have S8 := H8.out
          have d10 : w8.cell? ⟨zo, 10, none⟩ = some (.slice Au nup cu) := S8.cell 1 rfl 10
          have HRS := Lib.hid (rset_c l HJ.out.1.good vA vc w8 (HNL.out ▸ (Kd.R_reads' (S8.get 2 rfl).1).2.2) (by have := HLm.out.2; omega) (Kd.C_below HX.out.2.2.2 S8.base) HX.out.2.2.1 (fun y hy => HX.out.2.1.2 y hy) (by have := HX.out.1.2.2; omega))
          rw [HNU.out, HNL.out] at HRS
          obtain ⟨l9, hl9⟩ : ∃ l', setL up l = l' := ⟨_, rfl⟩
          have HI9 := Lib.hid (show HInv n l9 from hl9 ▸ HJ.out.1.settle up)
          have HLE := Lib.hid hl9
          rw [hl9] at HRS
          have k0 : (ok == 0) = false := by simpa using hk0
          have k1 : (ok == 1) = false := by simpa using hk1
          have k2 : (ok == 2) = false := by simpa using hk2
          clear hk0 hk1 hk2 S8 hl9
          go_wp2_with fail
          refine HRS.out.mono ?_
          rintro e w9 ⟨v9, rfl, S9⟩
          obtain ⟨A9, c9, rfl⟩ := Kd.R_slice (S9.get 0 rfl).1
          have T9 := H8.out.adds S9
          clear d0 d10 k0 k1 k2
          have d10 : w9.cell? ⟨zo, 10, none⟩ = some (.slice Au nup cu) := T9.cell 1 rfl 10
          have HST := Lib.hid (settle_st T9 0 rfl (fun x hx => (HJ.out.1.good x hx).h) HLm.out.1 HX.out.2.2.2 (fun y hy => HX.out.2.1.2 y hy) (by have := HX.out.1.2.2; omega) (cu := cu))
          rw [HNU.out, HLE.out] at HST
          obtain ⟨N9, hN9⟩ : ∃ N9, l9.length = N9 := ⟨_, rfl⟩
          have HN9 := Lib.hid hN9
          rw [hN9]
          have hN9b : N9 ≤ NL ∧ NL ≤ 64 := by
            have h1 := List.length_filter_le (fun x => !setP up x) l
            have h2 : (setL up l).length ≤ l.length := h1
            rw [HLE.out, hN9, HNL.out] at h2
            have := HLm.out.2
            rw [HNL.out] at this
            omega
          have HNB9 := Lib.hid hN9b
          have hsub : wrap64 ((NL : Int) - (N9 : Int)) = (NL : Int) - (N9 : Int) := by unfold wrap64; omega
          clear S9 T9 HRS H8 hN9 hN9b
          go_wp2_with fail
          refine HST.out.mono ?_
          rintro e w10 ⟨rfl, S', S10⟩
          rw [HNL.out, HN9.out]
          have H10 := Lib.hid S10
          clear S10 HST d10
          go_wp2_with fail
          go_meet
          exact ⟨l9, S', HI9.out, HN9.out ▸ ((H10.out.drop 2).drop 1)⟩
      case rest =>
        clear H8 d0
        obtain ⟨l2, S2, hI2, S9⟩ := hcut
        obtain ⟨A2, c2, rfl⟩ := Kd.R_slice (S9.get 1 rfl).1
        have HI2 := Lib.hid hI2
        have hlen2 : l2.length ≤ 64 := by have := hI2.len; have := HNB.out; omega
        have HA := Lib.hid (all_st S9 0 rfl (by omega))
        obtain ⟨N2, hN2⟩ : ∃ N2, l2.length = N2 := ⟨_, rfl⟩
        have HN2 := Lib.hid hN2
        have HLB := Lib.hid hlen2
        rw [hN2]
        clear hI2 S9 hN2 hlen2
        go_wp2_with fail
        refine HA.out.mono ?_
        rintro e w10 ⟨v, rfl, S10⟩
        obtain ⟨A3, c3, rfl⟩ := Kd.R_slice (S10.get 2 rfl).1
        have HSM := Lib.hid (same_c l2 HI2.out.good A3 A2 c3 c2 w10 (Kd.R_reads' (S10.get 2 rfl).1).2.2 (Kd.R_reads' (S10.get 1 rfl).1).2.2 (by have := HLB.out; omega))
        rw [HN2.out] at HSM ⊢
        have H10 := Lib.hid S10
        clear S10 HA
        go_wp2_with fail
        refine HSM.out.mono ?_
        rintro e w11 ⟨rfl, b11⟩
        have S11 := H10.out.below b11
        have HLn := Lib.hid (len_c S11 0 rfl)
        rw [HN2.out] at HLn
        have H11 := Lib.hid (S11.drop 2)
        clear b11 HSM H10 S11
        go_wp2_with fail
        refine HLn.out.mono ?_
        rintro e w12 ⟨rfl, rfl⟩
        go_wp2_with fail
        go_roundg (i - j)
        case measure => have := HJ.out; omega
        case rel =>
          have := HJ.out
          have := HI.out.2.1
          exact ⟨j + 1, l2, S2, congrArg (Value.int .i64) (wrap64_succ (i := j) (m := 1000000) (by omega) (by decide)), by omega, by omega, HI2.out, by rw [← HN2.out] at *; exact H11.out⟩
    · have hjl' : ¬ (j : Int) < (i : Int) := by omega
      clear hjl
      go_wp2_with fail
      go_ret
      exact ⟨rfl, H7.out.base⟩
theorem plays_c (n : Int) (ops : List Oq) (A : Option Addr) (c : Nat) (W : World) (hC : k37.C W A ops.length ops) (hc : ops.length ≤ c) (hgo : ∀ o ∈ ops, (0 ≤ o.f2 ∧ o.f2 < 256) ∧ ∀ y ∈ o.f3, 0 ≤ y ∧ y < 256) :
    Calls Try.prog 5 #[.int .i64 n, .slice A ops.length c] W fun e w' => e = .returned (.bool true) ∧ Below W.heap.size W w' := by
  by_cases h : 1 ≤ n ∧ n ≤ 64
  · exact plays_good n h ops A c W hC hc hgo
  · exact plays_bad n (by omega) ops A c W
end Go.Proofs.Ytmpodcefngpnkaa
