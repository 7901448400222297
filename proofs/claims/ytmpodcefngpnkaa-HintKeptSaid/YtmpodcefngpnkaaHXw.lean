/- HintKept: the walk. -/
import Derived.Test.YtmpodcefngpnkaaHX
set_option linter.unusedVariables false
set_option linter.unusedSimpArgs false
namespace Go.Proofs.Ytmpodcefngpnkaa
open Go.RowKit Go.Tat Go.Proofs.YtmpodcefngpnkaaW.PrintWords PHintPlays
abbrev mA (mb : Nat) (M : List (Int × Bool)) : Asr := mapA mb (Value.int .u8) Value.bool M
/-- What stands behind each call. -/
def KW (W : World) (r : Rc) (z g mb : Nat) (wx : World) : Prop := ∃ (l : List Hn) (S : Nat → Prop) (M : List (Int × Bool)), HInv 64 l ∧ Kp r l M ∧ St (fun _ => False) W wx [blk z (eRc r).toArray 35, hO g S 64 l, mA mb M]
set_option maxRecDepth 100000 in
set_option maxHeartbeats 8000000 in
theorem kept_c (r : Rc) (ops : List Oq) (A : Option Addr) (c : Nat) (W : World) (hC : k37.C W A ops.length ops) (hc : ops.length ≤ c) (hgo : ∀ o ∈ ops, (0 ≤ o.f2 ∧ o.f2 < 256) ∧ ∀ y ∈ o.f3, 0 ≤ y ∧ y < 256) :
    Calls Try.prog 6 #[.agg (eRc r).toArray, .slice A ops.length c] W fun e w' => e = .returned (.bool true) ∧ Below W.heap.size W w' := by
  have HC := Lib.hid (And.intro hC hgo)
  obtain ⟨z, hz⟩ : ∃ z, W.heap.size = z := ⟨_, rfl⟩
  have HZ := Lib.hid hz
  have S1 := (St.nil (fun _ => False) W).new' (eRc r).toArray 35 z hz
  have H1 := Lib.hid (show St (fun _ => False) W _ [blk z (eRc r).toArray 35] from S1)
  have HCU := Lib.hid (fun w (b : Below W.heap.size W w) => cut_c ops A c w (Kd.C_below hC b) hc)
  obtain ⟨qk, ⟨qp, ql, qn⟩, qd, qf, qe, qb⟩ := r
  rw [show eRc ⟨qk, ⟨qp, ql, qn⟩, qd, qf, qe, qb⟩ = [.string qk, .int .u64 qp, .int .u32 ql, .int .u8 qn, .int .u8 qd, .int .u32 qf, .int .u64 qe, .string qb] from rfl] at *
  clear hC hgo S1
  go_enter Try.func6, Try.ntmps6
  go_upto_region 1 with fail
  generalize World.alloc W _ = w1 at *
  have HN := Lib.hid (new_st H1.out 64 (by omega))
  clear H1
  go_wp2_with fail
  refine HN.out.mono ?_
  rintro e w2 ⟨g, S, rfl, S2⟩
  have H2 := Lib.hid (show St (fun _ => False) W w2 [blk z #[.string qk, .int .u64 qp, .int .u32 ql, .int .u8 qn, .int .u8 qd, .int .u32 qf, .int .u64 qe, .string qb] 35, hO g S 64 []] from S2)
  clear S2 HN
  go_wp2_with fail
  refine (fixed_c _).mono ?_
  rintro e w3 ⟨rfl, b3⟩
  have S3 := H2.out.below b3
  have q0 : w3.cell? ⟨z, 0, none⟩ = some (.string qk) := S3.cell 0 rfl 0
  have q1 : w3.cell? ⟨z, 1, none⟩ = some (.int .u64 qp) := S3.cell 0 rfl 1
  have q2 : w3.cell? ⟨z, 2, none⟩ = some (.int .u32 ql) := S3.cell 0 rfl 2
  have q3 : w3.cell? ⟨z, 3, none⟩ = some (.int .u8 qn) := S3.cell 0 rfl 3
  have q4 : w3.cell? ⟨z, 4, none⟩ = some (.int .u8 qd) := S3.cell 0 rfl 4
  have q5 : w3.cell? ⟨z, 5, none⟩ = some (.int .u32 qf) := S3.cell 0 rfl 5
  have q6 : w3.cell? ⟨z, 6, none⟩ = some (.int .u64 qe) := S3.cell 0 rfl 6
  have q7 : w3.cell? ⟨z, 7, none⟩ = some (.string qb) := S3.cell 0 rfl 7
  have H3 := Lib.hid S3
  clear S3 H2 b3
  by_cases hqk : 1000 < (qk.size : Int)
  · go_wp2_with fail
    go_ret
    first | exact ⟨rfl, H3.out.base⟩ | exact ⟨rfl, HZ.out ▸ H3.out.base⟩
  by_cases hqb : 3000 < (qb.size : Int)
  · go_wp2_with fail
    go_ret
    first | exact ⟨rfl, H3.out.base⟩ | exact ⟨rfl, HZ.out ▸ H3.out.base⟩
  have HA := Lib.hid (add_st H3.out 1 rfl List.Pairwise.nil (by decide) ⟨qk, ⟨qp, ql, qn⟩, qd, qf, qe, qb⟩ (by show qk.size < _; omega))
  rw [add_first] at HA
  unfold eRc at HA
  dsimp only at HA
  by_cases ha : mayB ⟨qk, ⟨qp, ql, qn⟩, qd, qf, qe, qb⟩ = false ∨ qd = 3
  · rw [if_pos ha] at HA
    clear ha
    go_wp2_with fail
    refine HA.out.mono ?_
    rintro e w4 ⟨rfl, S', S4⟩
    have H4 := Lib.hid S4
    clear S4 HA H3
    go_wp2_with fail
    go_ret
    first | exact ⟨rfl, H4.out.base⟩ | exact ⟨rfl, HZ.out ▸ H4.out.base⟩
  rw [if_neg ha] at HA
  have hm : mayB ⟨qk, ⟨qp, ql, qn⟩, qd, qf, qe, qb⟩ = true := by cases hb : mayB ⟨qk, ⟨qp, ql, qn⟩, qd, qf, qe, qb⟩ with | true => rfl | false => exact absurd (.inl hb) ha
  have hI1 : HInv 64 [(⟨⟨qk, ⟨qp, ql, qn⟩, qd, qf, qe, qb⟩, 0⟩ : Hn)] := ⟨List.pairwise_singleton _ _, fun x hx => by
    rw [List.mem_singleton.1 hx]
    exact ⟨hm, fun e => ha (.inr e), by show (0 : Int) ≤ 0 ∧ (0 : Int) < 18446744073709551616; decide⟩, by simp⟩
  have HI1 := Lib.hid hI1
  have HQS := Lib.hid (And.intro (show qk.size ≤ 250 from mayB_key (r := ⟨qk, ⟨qp, ql, qn⟩, qd, qf, qe, qb⟩) hm) (show qb.size ≤ 3000 by omega))
  clear hI1 hm ha
  go_wp2_with fail
  refine HA.out.mono ?_
  rintro e w4 ⟨rfl, S', S4⟩
  have H4 := Lib.hid (show St (fun _ => False) W w4 [blk z #[.string qk, .int .u64 qp, .int .u32 ql, .int .u8 qn, .int .u8 qd, .int .u32 qf, .int .u64 qe, .string qb] 35, hO g S' 64 [⟨⟨qk, ⟨qp, ql, qn⟩, qd, qf, qe, qb⟩, 0⟩]] from S4)
  clear S4 HA H3 q0 q1 q2 q3 q4 q5 q6 q7
  go_upto_region 7 with (refine wpList_makeMap rfl 64 rfl (Value.int .u8) Value.bool ?_; intro hM)
  clear hqk hqb
  have S5 := H4.out.add (a := mA w4.heap.size []) ((Below.refl _ _).alloc (Nat.le_refl _) _) hM (fun k h => Nat.le_of_eq h.symm)
  obtain ⟨mb, hmb⟩ : ∃ mb, w4.heap.size = mb := ⟨_, rfl⟩
  rw [hmb] at S5 ⊢
  have H5 := Lib.hid (show KW W ⟨qk, ⟨qp, ql, qn⟩, qd, qf, qe, qb⟩ z g mb _ from ⟨_, S', [], HI1.out, Kp.first _, S5⟩)
  clear hmb hM S5 H4
  generalize World.alloc w4 _ = w5 at *
  go_wp2_with fail
  refine (HCU.out _ (by obtain ⟨l, S, M, _, _, S5⟩ := H5.out; exact S5.base)).mono ?_
  rintro e w6 ⟨i, rfl, hi, hi8, hcb, b6⟩
  have H6 := Lib.hid (show KW W ⟨qk, ⟨qp, ql, qn⟩, qd, qf, qe, qb⟩ z g mb w6 by obtain ⟨l, S, M, h1, h2, S5⟩ := H5.out; exact ⟨l, S, M, h1, h2, S5.below b6⟩)
  have HI := Lib.hid (And.intro hi (And.intro hi8 hcb))
  clear b6 H5 HCU hi hi8 hcb HI1
  go_wp2_with fail
  go_loopg [47] (i + 1) (fun m v47 wx => ∃ j : Nat, v47 = .int .i64 j ∧ j ≤ i ∧ i - j < m ∧ KW W ⟨qk, ⟨qp, ql, qn⟩, qd, qf, qe, qb⟩ z g mb wx)
  case atStart => exact ⟨0, rfl, by omega, by omega, H6.out⟩
  case round =>
    clear H6
    obtain ⟨j, rfl, hj, hjm, l, S, M, hI, hK0, S7⟩ := hrel
    have H7 := Lib.hid S7
    have HJ := Lib.hid (And.intro hI (And.intro hK0 (And.intro hj hjm)))
    clear hI hK0 hj hjm S7
    by_cases hjl : j < i
    · have hjl' : (j : Int) < (i : Int) := by omega
      have hj0 : (0 : Int) ≤ (j : Int) := by omega
      obtain ⟨x, hx⟩ : ∃ x, ops[j]? = some x := ⟨_, List.getElem?_eq_getElem (by have := HI.out.1; omega)⟩
      have hxb := HI.out.2.2 x (List.mem_of_getElem? (i := j) (by rw [List.getElem?_take_of_lt hjl]; exact hx))
      have hgn := HC.out.2 x (List.mem_of_getElem? hx)
      obtain ⟨ad, b, o, cs, rfl, had, hb, hK, hcs⟩ := C_at HC.out.1 hx (by decide)
      obtain ⟨ok, ⟨rk, ⟨rp, rl, rn⟩, rd, rf, re, rb⟩, on, up⟩ := x
      obtain ⟨Au, cu, rfl, hul, hup⟩ := k37_open hK
      dsimp only at hcs hul hup hgn
      have hBw := H7.out.base
      have c0 := (hBw.cell (p := ⟨b, o, none⟩) hb).trans (hcs 0 _ rfl)
      have c1 := (hBw.cell (p := ⟨b, o + 1, none⟩) hb).trans (hcs 1 _ rfl)
      have c2 := (hBw.cell (p := ⟨b, o + 2, none⟩) hb).trans (hcs 2 _ rfl)
      have c3 := (hBw.cell (p := ⟨b, o + 3, none⟩) hb).trans (hcs 3 _ rfl)
      have c4 := (hBw.cell (p := ⟨b, o + 4, none⟩) hb).trans (hcs 4 _ rfl)
      have c5 := (hBw.cell (p := ⟨b, o + 5, none⟩) hb).trans (hcs 5 _ rfl)
      have c6 := (hBw.cell (p := ⟨b, o + 6, none⟩) hb).trans (hcs 6 _ rfl)
      have c7 := (hBw.cell (p := ⟨b, o + 7, none⟩) hb).trans (hcs 7 _ rfl)
      have c8 := (hBw.cell (p := ⟨b, o + 8, none⟩) hb).trans (hcs 8 _ rfl)
      have c9 := (hBw.cell (p := ⟨b, o + 9, none⟩) hb).trans (hcs 9 _ rfl)
      have c10 := (hBw.cell (p := ⟨b, o + 10, none⟩) hb).trans (hcs 10 _ rfl)
      have had' : ad.add (j * 11) = ⟨b, o, none⟩ := had
      have HX := Lib.hid (And.intro hxb (And.intro hgn (And.intro hul hup)))
      clear hK hcs had hx hBw hup hxb hul hgn
      dsimp only [cutB] at HX
      go_upto_region 10 with fail
      have S8 := H7.out.new' #[.int .i64 ok, .string rk, .int .u64 rp, .int .u32 rl, .int .u8 rn, .int .u8 rd, .int .u32 rf, .int .u64 re, .string rb, .int .u8 on, .slice Au up.length cu] 37 wr.heap.size rfl
      obtain ⟨zo, hzo⟩ : ∃ zo, wr.heap.size = zo := ⟨_, rfl⟩
      rw [hzo] at S8 ⊢
      clear hzo
      generalize World.alloc wr _ = w8 at *
      obtain ⟨nup, hnup⟩ : ∃ nup, up.length = nup := ⟨_, rfl⟩
      have HNU := Lib.hid hnup
      have H8 := Lib.hid (show St (fun _ => False) W w8 [blk z #[.string qk, .int .u64 qp, .int .u32 ql, .int .u8 qn, .int .u8 qd, .int .u32 qf, .int .u64 qe, .string qb] 35, hO g S 64 l, mA mb M, blk zo #[.int .i64 ok, .string rk, .int .u64 rp, .int .u32 rl, .int .u8 rn, .int .u8 rd, .int .u32 rf, .int .u64 re, .string rb, .int .u8 on, .slice Au nup cu] 37] from hnup ▸ S8)
      have d0 : w8.cell? ⟨zo, 0, none⟩ = some (.int .i64 ok) := S8.cell 3 rfl 0
      clear S8 H7 c0 c1 c2 c3 c4 c5 c6 c7 c8 c9 c10 had'
      clear hnup
      go_upto_block 2 with fail
      go_cut [] (KW W ⟨qk, ⟨qp, ql, qn⟩, qd, qf, qe, qb⟩ z g mb)
      case first =>
        have HLm := Lib.hid (show l.length ≤ 1000000 by have := HJ.out.1.len; omega)
        have HKS := Lib.hid (show rk.size < 4611686018427387904 by have := HX.out.1.1; omega)
        rcases (show ok = 0 ∨ ok = 1 ∨ ok = 2 ∨ (ok ≠ 0 ∧ ok ≠ 1 ∧ ok ≠ 2) by omega) with rfl | rfl | rfl | ⟨hk0, hk1, hk2⟩
        · have S8 := H8.out
          have d0 : w8.cell? ⟨zo, 0, none⟩ = some (.int .i64 0) := S8.cell 3 rfl 0
          have d1 : w8.cell? ⟨zo, 1, none⟩ = some (.string rk) := S8.cell 3 rfl 1
          have d2 : w8.cell? ⟨zo, 2, none⟩ = some (.int .u64 rp) := S8.cell 3 rfl 2
          have d3 : w8.cell? ⟨zo, 3, none⟩ = some (.int .u32 rl) := S8.cell 3 rfl 3
          have d4 : w8.cell? ⟨zo, 4, none⟩ = some (.int .u8 rn) := S8.cell 3 rfl 4
          have d5 : w8.cell? ⟨zo, 5, none⟩ = some (.int .u8 rd) := S8.cell 3 rfl 5
          have d6 : w8.cell? ⟨zo, 6, none⟩ = some (.int .u32 rf) := S8.cell 3 rfl 6
          have d7 : w8.cell? ⟨zo, 7, none⟩ = some (.int .u64 re) := S8.cell 3 rfl 7
          have d8 : w8.cell? ⟨zo, 8, none⟩ = some (.string rb) := S8.cell 3 rfl 8
          have q0 : w8.cell? ⟨z, 0, none⟩ = some (.string qk) := S8.cell 0 rfl 0
          have q1 : w8.cell? ⟨z, 1, none⟩ = some (.int .u64 qp) := S8.cell 0 rfl 1
          have q2 : w8.cell? ⟨z, 2, none⟩ = some (.int .u32 ql) := S8.cell 0 rfl 2
          have q3 : w8.cell? ⟨z, 3, none⟩ = some (.int .u8 qn) := S8.cell 0 rfl 3
          have q4 : w8.cell? ⟨z, 4, none⟩ = some (.int .u8 qd) := S8.cell 0 rfl 4
          have q5 : w8.cell? ⟨z, 5, none⟩ = some (.int .u32 qf) := S8.cell 0 rfl 5
          have q6 : w8.cell? ⟨z, 6, none⟩ = some (.int .u64 qe) := S8.cell 0 rfl 6
          have q7 : w8.cell? ⟨z, 7, none⟩ = some (.string qb) := S8.cell 0 rfl 7
          clear S8
          by_cases hkey : rk = qk
          · subst hkey
            have HAa := Lib.hid (add_st H8.out 1 rfl HJ.out.1.srt HLm.out ⟨rk, ⟨rp, rl, rn⟩, rd, rf, re, rb⟩ HKS.out)
            obtain ⟨la, hla⟩ : ∃ l', (addP 64 l ⟨rk, ⟨rp, rl, rn⟩, rd, rf, re, rb⟩).1 = l' := ⟨_, rfl⟩
            obtain ⟨ea, hea⟩ : ∃ e', (addP 64 l ⟨rk, ⟨rp, rl, rn⟩, rd, rf, re, rb⟩).2 = e' := ⟨_, rfl⟩
            rw [hla, hea] at HAa
            unfold eRc at HAa
            dsimp only at HAa
            have HHa := Lib.hid hla
            clear hla
            have HEa := Lib.hid hea
            clear hea
            go_wp2_with fail
            refine HAa.out.mono ?_
            rintro e w9 ⟨rfl, S', S9⟩
            clear HAa d0 d1 d2 d3 d4 d5 d6 d7 d8 q0 q1 q2 q3 q4 q5 q6 q7
            have d0 : w9.cell? ⟨zo, 0, none⟩ = some (.int .i64 0) := S9.cell 3 rfl 0
            have d1 : w9.cell? ⟨zo, 1, none⟩ = some (.string rk) := S9.cell 3 rfl 1
            have d2 : w9.cell? ⟨zo, 2, none⟩ = some (.int .u64 rp) := S9.cell 3 rfl 2
            have d3 : w9.cell? ⟨zo, 3, none⟩ = some (.int .u32 rl) := S9.cell 3 rfl 3
            have d4 : w9.cell? ⟨zo, 4, none⟩ = some (.int .u8 rn) := S9.cell 3 rfl 4
            have d5 : w9.cell? ⟨zo, 5, none⟩ = some (.int .u8 rd) := S9.cell 3 rfl 5
            have d6 : w9.cell? ⟨zo, 6, none⟩ = some (.int .u32 rf) := S9.cell 3 rfl 6
            have d7 : w9.cell? ⟨zo, 7, none⟩ = some (.int .u64 re) := S9.cell 3 rfl 7
            have d8 : w9.cell? ⟨zo, 8, none⟩ = some (.string rb) := S9.cell 3 rfl 8
            have q0 : w9.cell? ⟨z, 0, none⟩ = some (.string rk) := S9.cell 0 rfl 0
            have q1 : w9.cell? ⟨z, 1, none⟩ = some (.int .u64 qp) := S9.cell 0 rfl 1
            have q2 : w9.cell? ⟨z, 2, none⟩ = some (.int .u32 ql) := S9.cell 0 rfl 2
            have q3 : w9.cell? ⟨z, 3, none⟩ = some (.int .u8 qn) := S9.cell 0 rfl 3
            have q4 : w9.cell? ⟨z, 4, none⟩ = some (.int .u8 qd) := S9.cell 0 rfl 4
            have q5 : w9.cell? ⟨z, 5, none⟩ = some (.int .u32 qf) := S9.cell 0 rfl 5
            have q6 : w9.cell? ⟨z, 6, none⟩ = some (.int .u64 qe) := S9.cell 0 rfl 6
            have q7 : w9.cell? ⟨z, 7, none⟩ = some (.string qb) := S9.cell 0 rfl 7
            have H9 := Lib.hid (show St (fun _ => False) W w9 [blk z #[.string rk, .int .u64 qp, .int .u32 ql, .int .u8 qn, .int .u8 qd, .int .u32 qf, .int .u64 qe, .string qb] 35, hO g S' 64 la, mA mb M, blk zo #[.int .i64 0, .string rk, .int .u64 rp, .int .u32 rl, .int .u8 rn, .int .u8 rd, .int .u32 rf, .int .u64 re, .string rb, .int .u8 on, .slice Au nup cu] 37] from S9)
            clear S9 H8
            by_cases hz0 : ea = 0
            · subst hz0
              obtain ⟨bl, hbl⟩ : ∃ bl, decide (recF ⟨rk, ⟨qp, ql, qn⟩, qd, qf, qe, qb⟩ ⟨rk, ⟨rp, rl, rn⟩, rd, rf, re, rb⟩ < 0) = bl := ⟨_, rfl⟩
              have HLs := Lib.hid (less_c ⟨rk, ⟨qp, ql, qn⟩, qd, qf, qe, qb⟩ ⟨rk, ⟨rp, rl, rn⟩, rd, rf, re, rb⟩ (by have := HQS.out.2; show qb.size < _; omega) w9)
              rw [hbl] at HLs
              unfold eRc at HLs
              dsimp only at HLs
              have HBL := Lib.hid hbl
              clear hbl
              go_wp2_with fail
              refine HLs.out.mono ?_
              rintro e w10 ⟨rfl, b10⟩
              have S10 := H9.out.below b10
              cases bl with
              | true =>
                have H10 := Lib.hid S10
                clear S10 b10 H9 HLs
                go_wp2_with fail
                go_ret
                first | exact ⟨rfl, H10.out.base⟩ | exact ⟨rfl, HZ.out ▸ H10.out.base⟩
              | false =>
                have hsame := Kp.same HJ.out.1 HJ.out.2.1 (o := ⟨rk, ⟨rp, rl, rn⟩, rd, rf, re, rb⟩) rfl (.inl (by simpa using HBL.out))
                rw [HHa.out] at hsame
                (have hsm := hsame.symm; subst hsm)
                clear d0 d1 d2 d3 d4 d5 d6 d7 d8 q0 q1 q2 q3 q4 q5 q6 q7
                have d0 : w10.cell? ⟨zo, 0, none⟩ = some (.int .i64 0) := S10.cell 3 rfl 0
                have d1 : w10.cell? ⟨zo, 1, none⟩ = some (.string rk) := S10.cell 3 rfl 1
                have d2 : w10.cell? ⟨zo, 2, none⟩ = some (.int .u64 rp) := S10.cell 3 rfl 2
                have d3 : w10.cell? ⟨zo, 3, none⟩ = some (.int .u32 rl) := S10.cell 3 rfl 3
                have d4 : w10.cell? ⟨zo, 4, none⟩ = some (.int .u8 rn) := S10.cell 3 rfl 4
                have d5 : w10.cell? ⟨zo, 5, none⟩ = some (.int .u8 rd) := S10.cell 3 rfl 5
                have d6 : w10.cell? ⟨zo, 6, none⟩ = some (.int .u32 rf) := S10.cell 3 rfl 6
                have d7 : w10.cell? ⟨zo, 7, none⟩ = some (.int .u64 re) := S10.cell 3 rfl 7
                have d8 : w10.cell? ⟨zo, 8, none⟩ = some (.string rb) := S10.cell 3 rfl 8
                have q0 : w10.cell? ⟨z, 0, none⟩ = some (.string rk) := S10.cell 0 rfl 0
                have q1 : w10.cell? ⟨z, 1, none⟩ = some (.int .u64 qp) := S10.cell 0 rfl 1
                have q2 : w10.cell? ⟨z, 2, none⟩ = some (.int .u32 ql) := S10.cell 0 rfl 2
                have q3 : w10.cell? ⟨z, 3, none⟩ = some (.int .u8 qn) := S10.cell 0 rfl 3
                have q4 : w10.cell? ⟨z, 4, none⟩ = some (.int .u8 qd) := S10.cell 0 rfl 4
                have q5 : w10.cell? ⟨z, 5, none⟩ = some (.int .u32 qf) := S10.cell 0 rfl 5
                have q6 : w10.cell? ⟨z, 6, none⟩ = some (.int .u64 qe) := S10.cell 0 rfl 6
                have q7 : w10.cell? ⟨z, 7, none⟩ = some (.string qb) := S10.cell 0 rfl 7
                have H10 := Lib.hid S10
                clear S10 b10 H9 HLs HEa
                have HAb := Lib.hid (add_st H10.out 1 rfl HJ.out.1.srt HLm.out ⟨rk, ⟨rp, rl, rn⟩, rd, rf, re, rb⟩ HKS.out)
                obtain ⟨lb, hlb⟩ : ∃ l', (addP 64 l ⟨rk, ⟨rp, rl, rn⟩, rd, rf, re, rb⟩).1 = l' := ⟨_, rfl⟩
                obtain ⟨eb, heb⟩ : ∃ e', (addP 64 l ⟨rk, ⟨rp, rl, rn⟩, rd, rf, re, rb⟩).2 = e' := ⟨_, rfl⟩
                rw [hlb, heb] at HAb
                unfold eRc at HAb
                dsimp only at HAb
                have HI2 := Lib.hid (show HInv 64 lb from hlb ▸ HJ.out.1.add _)
                have HK2 := Lib.hid (show Kp ⟨rk, ⟨qp, ql, qn⟩, qd, qf, qe, qb⟩ lb M from by rw [← hlb, HHa.out]; exact HJ.out.2.1)
                clear hlb heb
                go_wp2_with fail
                refine HAb.out.mono ?_
                rintro e wb ⟨rfl, Sb, Tb⟩
                have Hb := Lib.hid Tb
                clear Tb HAb
                go_wp2_with fail
                go_meet
                exact ⟨lb, Sb, M, HI2.out, HK2.out, Hb.out.drop 3⟩
            · have hsame := Kp.same HJ.out.1 HJ.out.2.1 (o := ⟨rk, ⟨rp, rl, rn⟩, rd, rf, re, rb⟩) rfl (.inr (by rw [HEa.out]; exact hz0))
              rw [HHa.out] at hsame
              (have hsm := hsame.symm; subst hsm)
              have hz1 : (ea == 0) = false := by simpa using hz0
              clear HEa hz0
              have HAb := Lib.hid (add_st H9.out 1 rfl HJ.out.1.srt HLm.out ⟨rk, ⟨rp, rl, rn⟩, rd, rf, re, rb⟩ HKS.out)
              obtain ⟨lb, hlb⟩ : ∃ l', (addP 64 l ⟨rk, ⟨rp, rl, rn⟩, rd, rf, re, rb⟩).1 = l' := ⟨_, rfl⟩
              obtain ⟨eb, heb⟩ : ∃ e', (addP 64 l ⟨rk, ⟨rp, rl, rn⟩, rd, rf, re, rb⟩).2 = e' := ⟨_, rfl⟩
              rw [hlb, heb] at HAb
              unfold eRc at HAb
              dsimp only at HAb
              have HI2 := Lib.hid (show HInv 64 lb from hlb ▸ HJ.out.1.add _)
              have HK2 := Lib.hid (show Kp ⟨rk, ⟨qp, ql, qn⟩, qd, qf, qe, qb⟩ lb M from by rw [← hlb, HHa.out]; exact HJ.out.2.1)
              clear hlb heb
              go_wp2_with fail
              refine HAb.out.mono ?_
              rintro e wb ⟨rfl, Sb, Tb⟩
              have Hb := Lib.hid Tb
              clear Tb HAb
              go_wp2_with fail
              go_meet
              exact ⟨lb, Sb, M, HI2.out, HK2.out, Hb.out.drop 3⟩
          · have hkf : (rk.toList == qk.toList) = false := by rw [beq_eq_false_iff_ne]; exact fun e => hkey ((tl_eq _ _).1 e)
            have HKey := Lib.hid hkey
            clear hkey
            go_wp2_with fail
            have HAb := Lib.hid (add_st H8.out 1 rfl HJ.out.1.srt HLm.out ⟨rk, ⟨rp, rl, rn⟩, rd, rf, re, rb⟩ HKS.out)
            obtain ⟨lb, hlb⟩ : ∃ l', (addP 64 l ⟨rk, ⟨rp, rl, rn⟩, rd, rf, re, rb⟩).1 = l' := ⟨_, rfl⟩
            obtain ⟨eb, heb⟩ : ∃ e', (addP 64 l ⟨rk, ⟨rp, rl, rn⟩, rd, rf, re, rb⟩).2 = e' := ⟨_, rfl⟩
            rw [hlb, heb] at HAb
            unfold eRc at HAb
            dsimp only at HAb
            have HI2 := Lib.hid (show HInv 64 lb from hlb ▸ HJ.out.1.add _)
            have HK2 := Lib.hid (show Kp ⟨qk, ⟨qp, ql, qn⟩, qd, qf, qe, qb⟩ lb M from hlb ▸ HJ.out.2.1.other (o := ⟨rk, ⟨rp, rl, rn⟩, rd, rf, re, rb⟩) HKey.out)
            clear hlb heb
            go_wp2_with fail
            refine HAb.out.mono ?_
            rintro e wb ⟨rfl, Sb, Tb⟩
            have Hb := Lib.hid Tb
            clear Tb HAb
            go_wp2_with fail
            go_meet
            exact ⟨lb, Sb, M, HI2.out, HK2.out, Hb.out.drop 3⟩
        · have S8 := H8.out
          have d0 : w8.cell? ⟨zo, 0, none⟩ = some (.int .i64 1) := S8.cell 3 rfl 0
          have d1 : w8.cell? ⟨zo, 1, none⟩ = some (.string rk) := S8.cell 3 rfl 1
          have d2 : w8.cell? ⟨zo, 2, none⟩ = some (.int .u64 rp) := S8.cell 3 rfl 2
          have d3 : w8.cell? ⟨zo, 3, none⟩ = some (.int .u32 rl) := S8.cell 3 rfl 3
          have d4 : w8.cell? ⟨zo, 4, none⟩ = some (.int .u8 rn) := S8.cell 3 rfl 4
          have d9 : w8.cell? ⟨zo, 9, none⟩ = some (.int .u8 on) := S8.cell 3 rfl 9
          have q0 : w8.cell? ⟨z, 0, none⟩ = some (.string qk) := S8.cell 0 rfl 0
          have q1 : w8.cell? ⟨z, 1, none⟩ = some (.int .u64 qp) := S8.cell 0 rfl 1
          have q2 : w8.cell? ⟨z, 2, none⟩ = some (.int .u32 ql) := S8.cell 0 rfl 2
          have q3 : w8.cell? ⟨z, 3, none⟩ = some (.int .u8 qn) := S8.cell 0 rfl 3
          clear S8
          by_cases hn : 64 ≤ on
          · have HA := Lib.hid (ack_high g rk ⟨rp, rl, rn⟩ on hn w8)
            unfold eStp at HA
            dsimp only at HA
            have hn' : ¬ on < 64 := by omega
            go_wp2_with fail
            refine HA.out.mono ?_
            rintro e w9 ⟨rfl, b9⟩
            have T9 := H8.out.below b9
            clear d0 d1 d2 d3 d4 d9 q0 q1 q2 q3
            have d0 : w9.cell? ⟨zo, 0, none⟩ = some (.int .i64 1) := T9.cell 3 rfl 0
            have d1 : w9.cell? ⟨zo, 1, none⟩ = some (.string rk) := T9.cell 3 rfl 1
            have d2 : w9.cell? ⟨zo, 2, none⟩ = some (.int .u64 rp) := T9.cell 3 rfl 2
            have d3 : w9.cell? ⟨zo, 3, none⟩ = some (.int .u32 rl) := T9.cell 3 rfl 3
            have d4 : w9.cell? ⟨zo, 4, none⟩ = some (.int .u8 rn) := T9.cell 3 rfl 4
            have d9 : w9.cell? ⟨zo, 9, none⟩ = some (.int .u8 on) := T9.cell 3 rfl 9
            have q0 : w9.cell? ⟨z, 0, none⟩ = some (.string qk) := T9.cell 0 rfl 0
            have q1 : w9.cell? ⟨z, 1, none⟩ = some (.int .u64 qp) := T9.cell 0 rfl 1
            have q2 : w9.cell? ⟨z, 2, none⟩ = some (.int .u32 ql) := T9.cell 0 rfl 2
            have q3 : w9.cell? ⟨z, 3, none⟩ = some (.int .u8 qn) := T9.cell 0 rfl 3
            obtain ⟨l9, hl9⟩ : ∃ l9, l = l9 := ⟨_, rfl⟩
            obtain ⟨S9, hS9⟩ : ∃ S9, S = S9 := ⟨_, rfl⟩
            have H9 := Lib.hid (show St (fun _ => False) W w9 [blk z #[.string qk, .int .u64 qp, .int .u32 ql, .int .u8 qn, .int .u8 qd, .int .u32 qf, .int .u64 qe, .string qb] 35, hO g S9 64 l9, mA mb M, blk zo #[.int .i64 1, .string rk, .int .u64 rp, .int .u32 rl, .int .u8 rn, .int .u8 rd, .int .u32 rf, .int .u64 re, .string rb, .int .u8 on, .slice Au nup cu] 37] from hl9 ▸ hS9 ▸ T9)
            have HI9 := Lib.hid (show HInv 64 l9 from hl9 ▸ HJ.out.1)
            have HK9 := Lib.hid (show Kp ⟨qk, ⟨qp, ql, qn⟩, qd, qf, qe, qb⟩ l9 M from hl9 ▸ HJ.out.2.1)
            clear T9 HA b9 hl9 hS9 H8 HLm
            by_cases hkey : rk = qk
            · subst hkey
              obtain ⟨bl, hbl⟩ : ∃ bl, decide (hlcF ⟨rp, rl, rn⟩ ⟨qp, ql, qn⟩ < 0) = bl := ⟨_, rfl⟩
              have HLs := Lib.hid (sless_c ⟨rp, rl, rn⟩ ⟨qp, ql, qn⟩ w9)
              rw [hbl] at HLs
              unfold eStp at HLs
              dsimp only at HLs
              have HBL := Lib.hid hbl
              clear hbl
              go_wp2_with fail
              refine HLs.out.mono ?_
              rintro e w10 ⟨rfl, b10⟩
              have S10 := H9.out.below b10
              clear d0 d1 d2 d3 d4 d9 q0 q1 q2 q3
              have d9 : w10.cell? ⟨zo, 9, none⟩ = some (.int .u8 on) := S10.cell 3 rfl 9
              have H10 := Lib.hid S10
              clear S10 H9 b10 HLs
              cases bl with
              | true =>
                have hkp : Kp ⟨rk, ⟨qp, ql, qn⟩, qd, qf, qe, qb⟩ l9 M := by have := HK9.out; exact this
                have HK10 := Lib.hid hkp
                clear hkp
                go_wp2_with fail
                go_meet
                exact ⟨l9, S9, M, HI9.out, HK10.out, H10.out.drop 3⟩
              | false =>
                go_wp2_with fail
                go_meet
                exact ⟨l9, S9, M, HI9.out, HK9.out, H10.out.drop 3⟩
            · have hkf : (rk.toList == qk.toList) = false := by rw [beq_eq_false_iff_ne]; exact fun e => hkey ((tl_eq _ _).1 e)
              have hkp : Kp ⟨qk, ⟨qp, ql, qn⟩, qd, qf, qe, qb⟩ l9 M := by have := HK9.out; exact this
              have HK10 := Lib.hid hkp
              clear hkp hkey
              go_wp2_with fail
              go_meet
              exact ⟨l9, S9, M, HI9.out, HK10.out, H9.out.drop 3⟩
          · have HA := Lib.hid (ack_st H8.out 1 rfl HJ.out.1.srt HLm.out rk ⟨rp, rl, rn⟩ on ⟨HX.out.2.1.1.1, by omega⟩)
            have HI9 := Lib.hid (HJ.out.1.ack rk ⟨rp, rl, rn⟩ on)
            have HK9 := Lib.hid (HJ.out.2.1.ack HJ.out.1 rk ⟨rp, rl, rn⟩ (n := on) ⟨HX.out.2.1.1.1, by omega⟩)
            obtain ⟨l9, hl9⟩ : ∃ l9, ackL l rk ⟨rp, rl, rn⟩ on = l9 := ⟨_, rfl⟩
            obtain ⟨r9, hr9⟩ : ∃ r9, ackB l rk ⟨rp, rl, rn⟩ on = r9 := ⟨_, rfl⟩
            rw [hl9, hr9] at HA
            rw [hl9] at HI9 HK9
            unfold eStp at HA
            dsimp only at HA HK9
            have hn' : on < 64 := by omega
            clear hl9 hr9 hn
            go_wp2_with fail
            refine HA.out.mono ?_
            rintro e w9 ⟨rfl, S9, T9⟩
            clear d0 d1 d2 d3 d4 d9 q0 q1 q2 q3
            have d0 : w9.cell? ⟨zo, 0, none⟩ = some (.int .i64 1) := T9.cell 3 rfl 0
            have d1 : w9.cell? ⟨zo, 1, none⟩ = some (.string rk) := T9.cell 3 rfl 1
            have d2 : w9.cell? ⟨zo, 2, none⟩ = some (.int .u64 rp) := T9.cell 3 rfl 2
            have d3 : w9.cell? ⟨zo, 3, none⟩ = some (.int .u32 rl) := T9.cell 3 rfl 3
            have d4 : w9.cell? ⟨zo, 4, none⟩ = some (.int .u8 rn) := T9.cell 3 rfl 4
            have d9 : w9.cell? ⟨zo, 9, none⟩ = some (.int .u8 on) := T9.cell 3 rfl 9
            have q0 : w9.cell? ⟨z, 0, none⟩ = some (.string qk) := T9.cell 0 rfl 0
            have q1 : w9.cell? ⟨z, 1, none⟩ = some (.int .u64 qp) := T9.cell 0 rfl 1
            have q2 : w9.cell? ⟨z, 2, none⟩ = some (.int .u32 ql) := T9.cell 0 rfl 2
            have q3 : w9.cell? ⟨z, 3, none⟩ = some (.int .u8 qn) := T9.cell 0 rfl 3
            have H9 := Lib.hid (show St (fun _ => False) W w9 [blk z #[.string qk, .int .u64 qp, .int .u32 ql, .int .u8 qn, .int .u8 qd, .int .u32 qf, .int .u64 qe, .string qb] 35, hO g S9 64 l9, mA mb M, blk zo #[.int .i64 1, .string rk, .int .u64 rp, .int .u32 rl, .int .u8 rn, .int .u8 rd, .int .u32 rf, .int .u64 re, .string rb, .int .u8 on, .slice Au nup cu] 37] from T9)
            clear T9 HA H8 HLm
            by_cases hkey : rk = qk
            · subst hkey
              obtain ⟨bl, hbl⟩ : ∃ bl, decide (hlcF ⟨rp, rl, rn⟩ ⟨qp, ql, qn⟩ < 0) = bl := ⟨_, rfl⟩
              have HLs := Lib.hid (sless_c ⟨rp, rl, rn⟩ ⟨qp, ql, qn⟩ w9)
              rw [hbl] at HLs
              unfold eStp at HLs
              dsimp only at HLs
              have HBL := Lib.hid hbl
              clear hbl
              go_wp2_with fail
              refine HLs.out.mono ?_
              rintro e w10 ⟨rfl, b10⟩
              have S10 := H9.out.below b10
              clear d0 d1 d2 d3 d4 d9 q0 q1 q2 q3
              have d9 : w10.cell? ⟨zo, 9, none⟩ = some (.int .u8 on) := S10.cell 3 rfl 9
              have H10 := Lib.hid S10
              clear S10 H9 b10 HLs
              cases bl with
              | true =>
                have hkp : Kp ⟨rk, ⟨qp, ql, qn⟩, qd, qf, qe, qb⟩ l9 M := by have := HK9.out; have h2 : hlcF ⟨rp, rl, rn⟩ ⟨qp, ql, qn⟩ < 0 := (by simpa using HBL.out); split at this; (rename_i hc; exfalso; first | (have := hc.2; omega) | (exact absurd h2 hc.2) | omega | (simp at hc; omega)); exact this
                have HK10 := Lib.hid hkp
                clear hkp
                go_wp2_with fail
                go_meet
                exact ⟨l9, S9, M, HI9.out, HK10.out, H10.out.drop 3⟩
              | false =>
                have hkp : Kp ⟨rk, ⟨qp, ql, qn⟩, qd, qf, qe, qb⟩ l9 (mput M on true) := by have := HK9.out; have h2 : ¬ hlcF ⟨rp, rl, rn⟩ ⟨qp, ql, qn⟩ < 0 := (by simpa using HBL.out); split at this; exact this; (rename_i hc; exfalso; first | (exact hc ⟨rfl, h2⟩) | (exact hc ⟨trivial, by omega⟩) | (exact hc ⟨rfl, by omega⟩) | omega | (simp at hc; omega))
                have HK10 := Lib.hid hkp
                clear hkp
                go_wp2_with (at_mapUpdate; refine wpList_mapUpdate rfl 64 5 4 _ _ _ rfl Try.underlying64 keys5 Value.bool mb M (H10.out.get 2 rfl) on true rfl rfl rfl ?_; intro w11 M11 m11)
                have H11 := Lib.hid (H10.out.upd 2 rfl (a' := mA mb (mput M on true)) m11 M11 (fun k h => .inl h))
                clear M11 m11 H10
                go_wp2_with fail
                go_meet
                exact ⟨l9, S9, mput M on true, HI9.out, HK10.out, H11.out.drop 3⟩
            · have hkf : (rk.toList == qk.toList) = false := by rw [beq_eq_false_iff_ne]; exact fun e => hkey ((tl_eq _ _).1 e)
              have hkp : Kp ⟨qk, ⟨qp, ql, qn⟩, qd, qf, qe, qb⟩ l9 M := by have := HK9.out; rw [if_neg (fun h => hkey h.1)] at this; exact this
              have HK10 := Lib.hid hkp
              clear hkp hkey
              go_wp2_with fail
              go_meet
              exact ⟨l9, S9, M, HI9.out, HK10.out, H9.out.drop 3⟩
        · have d10 : w8.cell? ⟨zo, 10, none⟩ = some (.slice Au nup cu) := H8.out.cell 3 rfl 10
          have HM := Lib.hid (missing_st H8.out 1 rfl (fun x hx => (HJ.out.1.good x hx).h) HLm.out HX.out.2.2.2 (fun y hy => HX.out.2.1.2 y hy) (by have := HX.out.1.2.2; omega) (cu := cu))
          rw [HNU.out] at HM
          go_wp2_with fail
          refine HM.out.mono ?_
          rintro e w9 ⟨v, rfl, S9⟩
          have H9 := Lib.hid S9
          clear S9 HM H8
          go_wp2_with fail
          go_meet
          exact ⟨l, S, M, HJ.out.1, HJ.out.2.1, (H9.out.drop 4).drop 3⟩
        · have d10 : w8.cell? ⟨zo, 10, none⟩ = some (.slice Au nup cu) := H8.out.cell 3 rfl 10
          have HST := Lib.hid (settle_st H8.out 1 rfl (fun x hx => (HJ.out.1.good x hx).h) HLm.out HX.out.2.2.2 (fun y hy => HX.out.2.1.2 y hy) (by have := HX.out.1.2.2; omega) (cu := cu))
          rw [HNU.out] at HST
          have k0 : (ok == 0) = false := by simpa using hk0
          have k1 : (ok == 1) = false := by simpa using hk1
          have k2 : (ok == 2) = false := by simpa using hk2
          have HKN := Lib.hid (And.intro hk0 (And.intro hk1 hk2))
          clear hk0 hk1 hk2
          go_wp2_with fail
          refine HST.out.mono ?_
          rintro e w9 ⟨rfl, S', S9⟩
          have T9 : St (fun _ => False) W w9 [blk z #[.string qk, .int .u64 qp, .int .u32 ql, .int .u8 qn, .int .u8 qd, .int .u32 qf, .int .u64 qe, .string qb] 35, hO g S' 64 (setL up l), mA mb M, blk zo #[.int .i64 ok, .string rk, .int .u64 rp, .int .u32 rl, .int .u8 rn, .int .u8 rd, .int .u32 rf, .int .u64 re, .string rb, .int .u8 on, .slice Au nup cu] 37] := S9
          clear d10
          have d10 : w9.cell? ⟨zo, 10, none⟩ = some (.slice Au nup cu) := T9.cell 3 rfl 10
          have q0 : w9.cell? ⟨z, 0, none⟩ = some (.string qk) := T9.cell 0 rfl 0
          have HRO := Lib.hid (rown_c qk (by have := HQS.out.1; omega) up (by have := HX.out.1.2.2; omega) (fun y hy => HX.out.2.1.2 y hy) Au cu w9 (Kd.C_below HX.out.2.2.2 T9.base) HX.out.2.2.1)
          rw [HNU.out] at HRO
          obtain ⟨os, hos⟩ : ∃ os, own qk up = os := ⟨_, rfl⟩
          obtain ⟨N, hN⟩ : ∃ N, os.length = N := ⟨_, rfl⟩
          have hN2 : N ≤ 2 := by have := own_len qk up; rw [hos] at this; omega
          rw [hos] at HRO
          have HOS := Lib.hid (And.intro hos (And.intro hN hN2))
          have H9 := Lib.hid T9
          clear S9 T9 HST hos hN hN2 H8
          go_wp2_with fail
          refine HRO.out.mono ?_
          rintro e w10 ⟨v, rfl, S10⟩
          obtain ⟨Ao, co, rfl⟩ := Kd.R_slice (S10.get 0 rfl).1
          rw [HOS.out.2.1] at S10 ⊢
          have H10 := Lib.hid (show St (fun _ => False) W w10 [blk z #[.string qk, .int .u64 qp, .int .u32 ql, .int .u8 qn, .int .u8 qd, .int .u32 qf, .int .u64 qe, .string qb] 35, hO g S' 64 (setL up l), mA mb M, blk zo #[.int .i64 ok, .string rk, .int .u64 rp, .int .u32 rl, .int .u8 rn, .int .u8 rd, .int .u32 rf, .int .u64 re, .string rb, .int .u8 on, .slice Au nup cu] 37, slc (Kd.int .u8) 5 (.slice Ao N co) os] from H9.out.adds S10)
          clear S10 H9 HRO d10 q0
          go_wp2_with fail
          go_loopg [11, 67] (N + 1) (fun m v11 v67 wx => ∃ q : Nat, v67 = .int .i64 q ∧ q ≤ N ∧ N - q < m ∧ v11 = .bool (decide ((0 : Int) < (N : Int)) && (os.take q).all fun n => ac M n) ∧ St (fun _ => False) W wx [blk z #[.string qk, .int .u64 qp, .int .u32 ql, .int .u8 qn, .int .u8 qd, .int .u32 qf, .int .u64 qe, .string qb] 35, hO g S' 64 (setL up l), mA mb M, blk zo #[.int .i64 ok, .string rk, .int .u64 rp, .int .u32 rl, .int .u8 rn, .int .u8 rd, .int .u32 rf, .int .u64 re, .string rb, .int .u8 on, .slice Au nup cu] 37, slc (Kd.int .u8) 5 (.slice Ao N co) os])
          case atStart => exact ⟨0, rfl, by omega, by omega, by simp, H10.out⟩
          case round =>
            clear H10
            obtain ⟨q, rfl, hq, hqm, rfl, T11⟩ := hrel
            obtain ⟨B, hB⟩ : ∃ B, (decide ((0 : Int) < (N : Int)) && (os.take q).all fun n => ac M n) = B := ⟨_, rfl⟩
            rw [hB]
            have HQ := Lib.hid (And.intro hB (And.intro hq hqm))
            clear hB hqm
            by_cases hql : q < N
            · have hql' : (q : Int) < (N : Int) := by omega
              have hq0 : (0 : Int) ≤ (q : Int) := by omega
              have hqb : (q : Int) < 1000000 := by have := HOS.out.2.2; omega
              obtain ⟨n, hn⟩ : ∃ n, os[q]? = some n := ⟨_, List.getElem?_eq_getElem (by rw [HOS.out.2.1]; exact hql)⟩
              obtain ⟨gB, cB, hv, _, _⟩ := slc_form (T11.get 4 rfl) (by rw [HOS.out.2.1]; omega)
              injection hv with hv1 hv3 hv2
              subst hv1; subst hv2
              clear hv3
              have cu0 : wr.cell? ⟨gB, q, none⟩ = some (.int .u8 n) := slc_int (T11.get 4 rfl) hn
              obtain ⟨b, hb⟩ : ∃ b, ac M n = b := ⟨_, rfl⟩
              have hlk := ac_look (T11.get 2 rfl) n b hb
              have HNN := Lib.hid (And.intro hn hb)
              have H11 := Lib.hid T11
              clear T11 hn hb hq
              have hnext : (decide ((0 : Int) < (N : Int)) && (os.take (q + 1)).all fun n => ac M n) = (B && b) := by
                rw [List.take_add_one, HNN.out.1, List.all_append, ← Bool.and_assoc, HQ.out.1, ← HNN.out.2]
                simp
              have HNX := Lib.hid hnext
              clear hnext
              cases B with
              | true =>
                go_wp2_with fail
                go_roundg (N - q)
                case measure => have := HQ.out; omega
                case rel => have := HQ.out; exact ⟨q + 1, by go_num, by omega, by omega, by rw [HNX.out]; simp, H11.out⟩
              | false =>
                go_wp2_with fail
                go_roundg (N - q)
                case measure => have := HQ.out; omega
                case rel => have := HQ.out; exact ⟨q + 1, by go_num, by omega, by omega, by rw [HNX.out]; simp, H11.out⟩
            · have hql' : ¬ (q : Int) < (N : Int) := by omega
              have H11 := Lib.hid T11
              have hfull : (decide (0 < (own qk up).length) && (own qk up).all fun n => ac M n) = B := by
                have e : os.take q = os := by rw [show q = N by omega, ← HOS.out.2.1, List.take_length]
                rw [← HQ.out.1, e, HOS.out.1, HOS.out.2.1]
                congr 1
                simp
              have HF := Lib.hid hfull
              clear T11 hfull hq
              cases B with
              | true =>
                go_wp2_with fail
                go_ret
                first | exact ⟨rfl, H11.out.base⟩ | exact ⟨rfl, HZ.out ▸ H11.out.base⟩
              | false =>
                go_wp2_with fail
                go_meet
                exact ⟨_, S', M, HJ.out.1.settle up, Kp.settle HJ.out.2.1 (up := up) (fun y hy => HX.out.2.1.2 y hy) HF.out, (H11.out.drop 4).drop 3⟩
      case rest =>
        clear H8 d0
        obtain ⟨l2, S2, M2, hI2, hK2, S9⟩ := hcut
        have HK2 := Lib.hid (And.intro hI2 hK2)
        have HA := Lib.hid (all_st S9 1 rfl (by have := hI2.len; omega))
        clear hI2 hK2 S9
        go_wp2_with fail
        refine HA.out.mono ?_
        rintro e w10 ⟨v, rfl, S10⟩
        obtain ⟨A2, c2, rfl⟩ := Kd.R_slice (S10.get 3 rfl).1
        obtain ⟨N, hN⟩ : ∃ N, l2.length = N := ⟨_, rfl⟩
        have HN := Lib.hid hN
        have hNb : N ≤ 64 := by have := HK2.out.1.len; omega
        rw [hN] at S10 ⊢
        have H10 := Lib.hid (show St (fun _ => False) W w10 [blk z #[.string qk, .int .u64 qp, .int .u32 ql, .int .u8 qn, .int .u8 qd, .int .u32 qf, .int .u64 qe, .string qb] 35, hO g S2 64 l2, mA mb M2, slc k52 52 (.slice A2 N c2) l2] from S10)
        clear S10 HA hN
        go_wp2_with fail
        go_loopg [14, 148] (N + 1) (fun m v14 v148 wx => ∃ q : Nat, v148 = .int .i64 q ∧ q ≤ N ∧ N - q < m ∧ v14 = .bool ((l2.take q).any fun x => recB x.f0 ⟨qk, ⟨qp, ql, qn⟩, qd, qf, qe, qb⟩) ∧ St (fun _ => False) W wx [blk z #[.string qk, .int .u64 qp, .int .u32 ql, .int .u8 qn, .int .u8 qd, .int .u32 qf, .int .u64 qe, .string qb] 35, hO g S2 64 l2, mA mb M2, slc k52 52 (.slice A2 N c2) l2])
        case atStart => exact ⟨0, rfl, by omega, by omega, by simp, H10.out⟩
        case round =>
          clear H10
          obtain ⟨q, rfl, hq, hqm, rfl, T11⟩ := hrel
          obtain ⟨B, hB⟩ : ∃ B, ((l2.take q).any fun x => recB x.f0 ⟨qk, ⟨qp, ql, qn⟩, qd, qf, qe, qb⟩) = B := ⟨_, rfl⟩
          rw [hB]
          have HQ := Lib.hid (And.intro hB (And.intro hq hqm))
          clear hB hqm
          by_cases hql : q < N
          · have hql' : (q : Int) < (N : Int) := by omega
            have hq0 : (0 : Int) ≤ (q : Int) := by omega
            have hqb : (q : Int) < 1000000 := by omega
            obtain ⟨x, hx⟩ : ∃ x, l2[q]? = some x := ⟨_, List.getElem?_eq_getElem (by rw [HN.out]; exact hql)⟩
            obtain ⟨gb, cb, hv, _, _⟩ := slc_form (T11.get 3 rfl) (by rw [HN.out]; omega)
            injection hv with hv1 hv3 hv2
            subst hv1; subst hv2
            clear hv3
            obtain ⟨⟨xk, ⟨xp, xl, xn⟩, xd, xf, xe, xb⟩, xa⟩ := x
            have E : ∀ c, c < 9 → wr.cell? ⟨gb, q * 9 + c, none⟩ = (eHn ⟨⟨xk, ⟨xp, xl, xn⟩, xd, xf, xe, xb⟩, xa⟩)[c]? := fun c hc => (T11.elem flHn 3 rfl (i := q) (c := c) hx hc).1
            have u0 : wr.cell? ⟨gb, q * 9, none⟩ = some (.string xk) := E 0 (by decide)
            have u1 : wr.cell? ⟨gb, q * 9 + 1, none⟩ = some (.int .u64 xp) := E 1 (by decide)
            have u2 : wr.cell? ⟨gb, q * 9 + 2, none⟩ = some (.int .u32 xl) := E 2 (by decide)
            have u3 : wr.cell? ⟨gb, q * 9 + 3, none⟩ = some (.int .u8 xn) := E 3 (by decide)
            have u4 : wr.cell? ⟨gb, q * 9 + 4, none⟩ = some (.int .u8 xd) := E 4 (by decide)
            have u5 : wr.cell? ⟨gb, q * 9 + 5, none⟩ = some (.int .u32 xf) := E 5 (by decide)
            have u6 : wr.cell? ⟨gb, q * 9 + 6, none⟩ = some (.int .u64 xe) := E 6 (by decide)
            have u7 : wr.cell? ⟨gb, q * 9 + 7, none⟩ = some (.string xb) := E 7 (by decide)
            have u8 : wr.cell? ⟨gb, q * 9 + 8, none⟩ = some (.int .u64 xa) := E 8 (by decide)
            have H11 := Lib.hid T11
            have HX2 := Lib.hid hx
            clear T11 E hx hq
            go_upto_region 35 with fail
            have S12 := H11.out.new' #[.string xk, .int .u64 xp, .int .u32 xl, .int .u8 xn, .int .u8 xd, .int .u32 xf, .int .u64 xe, .string xb, .int .u64 xa] 52 wr.heap.size rfl
            obtain ⟨zh, hzh⟩ : ∃ zh, wr.heap.size = zh := ⟨_, rfl⟩
            rw [hzh] at S12 ⊢
            clear hzh
            generalize World.alloc wr _ = w12 at *
            have H12 := Lib.hid S12
            have h0 : w12.cell? ⟨zh, 0, none⟩ = some (.string xk) := S12.cell 4 rfl 0
            have h1 : w12.cell? ⟨zh, 1, none⟩ = some (.int .u64 xp) := S12.cell 4 rfl 1
            have h2 : w12.cell? ⟨zh, 2, none⟩ = some (.int .u32 xl) := S12.cell 4 rfl 2
            have h3 : w12.cell? ⟨zh, 3, none⟩ = some (.int .u8 xn) := S12.cell 4 rfl 3
            have h4 : w12.cell? ⟨zh, 4, none⟩ = some (.int .u8 xd) := S12.cell 4 rfl 4
            have h5 : w12.cell? ⟨zh, 5, none⟩ = some (.int .u32 xf) := S12.cell 4 rfl 5
            have h6 : w12.cell? ⟨zh, 6, none⟩ = some (.int .u64 xe) := S12.cell 4 rfl 6
            have h7 : w12.cell? ⟨zh, 7, none⟩ = some (.string xb) := S12.cell 4 rfl 7
            have q0 : w12.cell? ⟨z, 0, none⟩ = some (.string qk) := S12.cell 0 rfl 0
            have q1 : w12.cell? ⟨z, 1, none⟩ = some (.int .u64 qp) := S12.cell 0 rfl 1
            have q2 : w12.cell? ⟨z, 2, none⟩ = some (.int .u32 ql) := S12.cell 0 rfl 2
            have q3 : w12.cell? ⟨z, 3, none⟩ = some (.int .u8 qn) := S12.cell 0 rfl 3
            have q4 : w12.cell? ⟨z, 4, none⟩ = some (.int .u8 qd) := S12.cell 0 rfl 4
            have q5 : w12.cell? ⟨z, 5, none⟩ = some (.int .u32 qf) := S12.cell 0 rfl 5
            have q6 : w12.cell? ⟨z, 6, none⟩ = some (.int .u64 qe) := S12.cell 0 rfl 6
            have q7 : w12.cell? ⟨z, 7, none⟩ = some (.string qb) := S12.cell 0 rfl 7
            clear S12 H11 u0 u1 u2 u3 u4 u5 u6 u7 u8
            obtain ⟨b, hb⟩ : ∃ b, recB ⟨xk, ⟨xp, xl, xn⟩, xd, xf, xe, xb⟩ ⟨qk, ⟨qp, ql, qn⟩, qd, qf, qe, qb⟩ = b := ⟨_, rfl⟩
            have heq : ∀ d w, (Op.equalIn (d + 3) 35 (.agg #[.string xk, .int .u64 xp, .int .u32 xl, .int .u8 xn, .int .u8 xd, .int .u32 xf, .int .u64 xe, .string xb]) (.agg #[.string qk, .int .u64 qp, .int .u32 ql, .int .u8 qn, .int .u8 qd, .int .u32 qf, .int .u64 qe, .string qb])).run Try.prog w = .ok b w := fun d w => by
              rw [eqA35 d w, ← hb]; rfl
            have hnext : ((l2.take (q + 1)).any fun x => recB x.f0 ⟨qk, ⟨qp, ql, qn⟩, qd, qf, qe, qb⟩) = (B || b) := by
              rw [List.take_add_one, HX2.out, List.any_append, HQ.out.1, ← hb]
              simp
            have HNX := Lib.hid hnext
            clear hnext hb
            cases B with
            | true =>
              clear heq
              go_wp2_with fail
              go_roundg (N - q)
              case measure => have := HQ.out; omega
              case rel => have := HQ.out; exact ⟨q + 1, by go_num, by omega, by omega, by rw [HNX.out]; simp, H12.out.drop 4⟩
            | false =>
              go_wp2_with fail
              go_roundg (N - q)
              case measure => have := HQ.out; omega
              case rel => have := HQ.out; exact ⟨q + 1, by go_num, by omega, by omega, by rw [HNX.out]; simp, H12.out.drop 4⟩
          · have hql' : ¬ (q : Int) < (N : Int) := by omega
            have H11 := Lib.hid (T11.drop 3)
            have hT : B = true := by
              obtain ⟨x, hx, e, _⟩ := HK2.out.2
              have e2 : l2.take q = l2 := by rw [show q = N by omega, ← HN.out, List.take_length]
              rw [← HQ.out.1, e2, List.any_eq_true]
              exact ⟨x, hx, (recB_iff _ _).2 e⟩
            subst hT
            clear T11 hq
            go_wp2_with fail
            go_roundg (i - j)
            case measure => have := HJ.out; omega
            case rel => have := HJ.out; have := HI.out.2.1; exact ⟨j + 1, congrArg (Value.int .i64) (wrap64_succ (i := j) (m := 1000000) (by omega) (by decide)), by omega, by omega, l2, S2, M2, HK2.out.1, HK2.out.2, H11.out⟩
    · have hjl' : ¬ (j : Int) < (i : Int) := by omega
      clear hjl
      go_wp2_with fail
      go_ret
      first | exact ⟨rfl, H7.out.base⟩ | exact ⟨rfl, HZ.out ▸ H7.out.base⟩
end Go.Proofs.Ytmpodcefngpnkaa
