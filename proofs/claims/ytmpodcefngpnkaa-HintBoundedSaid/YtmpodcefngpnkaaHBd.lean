/- HintBounded. -/
import Derived.Test.YtmpodcefngpnkaaHU
namespace Go.Proofs.Ytmpodcefngpnkaa
open Go.RowKit Go.Tat Go.Proofs.YtmpodcefngpnkaaW.PrintWords PHintPlays
theorem addP_zero {most : Int} {l : List Hn} (r : Rc) (h : ∀ x ∈ l, x.f1 = 0) : ∀ x ∈ (addP most l r).1, x.f1 = 0 := by
  unfold addP
  split
  · exact h
  · split
    · split
      · split
        · exact h
        · intro x hx
          rcases List.mem_or_eq_of_mem_set hx with h1 | rfl
          · exact h x h1
          · rfl
      · exact h
    · split
      · exact h
      · intro x hx
        rcases List.mem_append.1 hx with hx | hx
        · exact h x (List.mem_of_mem_take hx)
        · rcases List.mem_cons.1 hx with rfl | hx
          · rfl
          · exact h x (List.mem_of_mem_drop hx)
theorem wrap_small {x : Int} (h0 : 0 ≤ x) (h1 : x ≤ 10000000) : wrap64 x = x := by unfold wrap64; omega
theorem leq_run {a b : ByteArray} (h : cS b a < 0) (t : TypeId) (w : World) : Sem.run Try.prog (binOp .leq t (.string a) (.string b)) w = .ok (.bool false) w := by
  have e : binOp .leq t (.string a) (.string b) = pure (.bool (Op.bytesLess a.toList b.toList || a.toList == b.toList)) := by simp [binOp, Op.stringOp]
  have h1 := cS_neg a b
  have h2 : Op.bytesLess a.toList b.toList = false := by rw [Lib.toList_data, Lib.toList_data, cb_less]; unfold cS at h h1; exact decide_eq_false (by omega)
  have h3 : (a.toList == b.toList) = false := by
    rw [beq_eq_false_iff_ne]
    intro e
    have := (cS_eq a b).2 ((tl_eq a b).1 e)
    omega
  rw [e, h2, h3]
  rfl
set_option maxRecDepth 100000 in
set_option maxHeartbeats 4000000 in
theorem bounded_c (n : Int) (hn : 0 ≤ n ∧ n < 256) (ops : List Oq) (A : Option Addr) (c : Nat) (W : World) (hC : k37.C W A ops.length ops) (hc : ops.length ≤ c) :
    Calls Try.prog 4 #[.int .u8 n, .slice A ops.length c] W fun e w' => e = .returned (.bool true) ∧ Below W.heap.size W w' := by
  have HC := Lib.hid hC
  obtain ⟨k, hk⟩ : ∃ k : Int, 1 + n % 64 = k := ⟨_, rfl⟩
  have hk1 : 1 ≤ k ∧ k ≤ 64 := by omega
  have hn0 := hn.1
  have hn1 := hn.2
  have hw1 : wrap64 n = n := by unfold wrap64; omega
  have hw2 : n.tmod 64 = n % 64 := by rw [Int.tmod_eq_emod_of_nonneg hn0]
  have hw3 : wrap64 (1 + n % 64) = 1 + n % 64 := by unfold wrap64; omega
  have HN := Lib.hid (new_st (St.nil (fun _ => False) W) k hk1)
  have HCU := Lib.hid (fun w (b : Below W.heap.size W w) => cut_c ops A c w (Kd.C_below hC b) hc)
  have HK := Lib.hid hk1
  clear hC hn hk1
  go_enter Try.func4, Try.ntmps4
  go_wp2_with fail
  refine HN.out.mono ?_
  rintro e w1 ⟨g, S, rfl, S1⟩
  have H1 := Lib.hid (show St (fun _ => False) W w1 [hO g S k []] from S1)
  clear S1 HN hw1 hw2 hw3 hn0 hn1 hk
  go_wp2_with fail
  refine (fixed_c _).mono ?_
  rintro e w2 ⟨rfl, b2⟩
  have H2 := Lib.hid (H1.out.below b2)
  clear b2 H1
  go_wp2_with fail
  refine (HCU.out _ H2.out.base).mono ?_
  rintro e w3 ⟨i, rfl, hi, hi8, hcb, b3⟩
  have H3 := Lib.hid (H2.out.below b3)
  have HI := Lib.hid (And.intro hi (And.intro hi8 hcb))
  clear b3 H2 HCU hi hi8 hcb
  go_upto_block 0 with fail
  go_cut [] (fun wx => ∃ (l : List Hn) (S : Nat → Prop), HInv k l ∧ (∀ x ∈ l, x.f1 = 0) ∧ St (fun _ => False) W wx [hO g S k l])
  case first =>
    go_wp2_with fail
    go_loopg [30] (i + 1) (fun m v30 wx => ∃ (j : Nat) (l : List Hn) (S : Nat → Prop), v30 = .int .i64 j ∧ j ≤ i ∧ i - j < m ∧ HInv k l ∧ (∀ x ∈ l, x.f1 = 0) ∧ St (fun _ => False) W wx [hO g S k l])
    case atStart => exact ⟨0, [], S, rfl, by omega, by omega, HInv.nil k (by have := HK.out; omega), by simp, H3.out⟩
    case round =>
      clear H3
      obtain ⟨j, l, S, rfl, hj, hjm, hI, hz, S4⟩ := hrel
      have H4 := Lib.hid S4
      have HJ := Lib.hid (And.intro hI (And.intro hz (And.intro hj hjm)))
      clear hI hz hj hjm S4
      by_cases hjl : j < i
      · have hjl' : (j : Int) < (i : Int) := by omega
        have hj0 : (0 : Int) ≤ (j : Int) := by omega
        obtain ⟨x, hx⟩ : ∃ x, ops[j]? = some x := ⟨_, List.getElem?_eq_getElem (by have := HI.out.1; omega)⟩
        have hxb := HI.out.2.2 x (List.mem_of_getElem? (i := j) (by rw [List.getElem?_take_of_lt hjl]; exact hx))
        have hks := hxb.1
        obtain ⟨ad, b, o, cs, rfl, had, hb, hK, hcs⟩ := C_at HC.out hx (by decide)
        obtain ⟨ok, ⟨rk, ⟨rp, rl, rn⟩, rd, rf, re, rb⟩, on, up⟩ := x
        obtain ⟨Au, cu, rfl, hul, hup⟩ := k37_open hK
        dsimp only at hcs hul hup
        have hBw := H4.out.base
        have c0 := (hBw.cell (p := ⟨b, o, none⟩) hb).trans (hcs 0 _ rfl)
        have c1 := (hBw.cell (p := ⟨b, o + 1, none⟩) hb).trans (hcs 1 _ rfl)
        have c2 := (hBw.cell (p := ⟨b, o + 2, none⟩) hb).trans (hcs 2 _ rfl)
        have c3 := (hBw.cell (p := ⟨b, o + 3, none⟩) hb).trans (hcs 3 _ rfl)
        have c4 := (hBw.cell (p := ⟨b, o + 4, none⟩) hb).trans (hcs 4 _ rfl)
        have c5 := (hBw.cell (p := ⟨b, o + 5, none⟩) hb).trans (hcs 5 _ rfl)
        have c6 := (hBw.cell (p := ⟨b, o + 6, none⟩) hb).trans (hcs 6 _ rfl)
        have c7 := (hBw.cell (p := ⟨b, o + 7, none⟩) hb).trans (hcs 7 _ rfl)
        have c8 := (hBw.cell (p := ⟨b, o + 8, none⟩) hb).trans (hcs 8 _ rfl)
        have c9 := (hBw.cell (p := ⟨b, o + 9, none⟩) hb).trans (hcs 9 _ rfl)
        have c10 := (hBw.cell (p := ⟨b, o + 10, none⟩) hb).trans (hcs 10 _ rfl)
        have had' : ad.add (j * 11) = ⟨b, o, none⟩ := had
        clear hK hcs had hx hBw hup hxb
        dsimp only at hks
        have hks2 : rk.size < 4611686018427387904 := by omega
        have HKS := Lib.hid hks2
        clear hks hks2
        go_upto_region 8 with fail
        have S5 := H4.out.new' #[.int .i64 ok, .string rk, .int .u64 rp, .int .u32 rl, .int .u8 rn, .int .u8 rd, .int .u32 rf, .int .u64 re, .string rb, .int .u8 on, .slice Au up.length cu] 37 wr.heap.size rfl
        obtain ⟨z, hz⟩ : ∃ z, wr.heap.size = z := ⟨_, rfl⟩
        rw [hz] at S5 ⊢
        clear hz
        generalize World.alloc wr _ = w4 at *
        have d1 : w4.cell? ⟨z, 1, none⟩ = some (.string rk) := S5.cell 1 rfl 1
        have d2 : w4.cell? ⟨z, 2, none⟩ = some (.int .u64 rp) := S5.cell 1 rfl 2
        have d3 : w4.cell? ⟨z, 3, none⟩ = some (.int .u32 rl) := S5.cell 1 rfl 3
        have d4 : w4.cell? ⟨z, 4, none⟩ = some (.int .u8 rn) := S5.cell 1 rfl 4
        have d5 : w4.cell? ⟨z, 5, none⟩ = some (.int .u8 rd) := S5.cell 1 rfl 5
        have d6 : w4.cell? ⟨z, 6, none⟩ = some (.int .u32 rf) := S5.cell 1 rfl 6
        have d7 : w4.cell? ⟨z, 7, none⟩ = some (.int .u64 re) := S5.cell 1 rfl 7
        have d8 : w4.cell? ⟨z, 8, none⟩ = some (.string rb) := S5.cell 1 rfl 8
        have H5 := Lib.hid S5
        clear S5 H4 c0 c1 c2 c3 c4 c5 c6 c7 c8 c9 c10 had' hul
        have HA := Lib.hid (add_st H5.out 0 rfl HJ.out.1.srt (by have := HJ.out.1.len; have := HK.out; omega) ⟨rk, ⟨rp, rl, rn⟩, rd, rf, re, rb⟩ HKS.out)
        obtain ⟨l2, hl2⟩ : ∃ l2, (addP k l ⟨rk, ⟨rp, rl, rn⟩, rd, rf, re, rb⟩).1 = l2 := ⟨_, rfl⟩
        obtain ⟨r2, hr2⟩ : ∃ r2, (addP k l ⟨rk, ⟨rp, rl, rn⟩, rd, rf, re, rb⟩).2 = r2 := ⟨_, rfl⟩
        have HI2 := Lib.hid (show HInv k l2 from hl2 ▸ HJ.out.1.add _)
        have HZ2 := Lib.hid (show ∀ x ∈ l2, x.f1 = 0 from hl2 ▸ addP_zero _ HJ.out.2.1)
        rw [hl2, hr2] at HA
        unfold eRc at HA
        dsimp only at HA
        clear hl2 hr2
        go_wp2_with fail
        refine HA.out.mono ?_
        rintro e w5 ⟨rfl, S', S6⟩
        have H6 := Lib.hid ((show St (fun _ => False) W w5 ([hO g S' k l2] ++ [_]) from S6).drop 1)
        have HLn := Lib.hid (len_c S6 0 rfl)
        clear S6 HA H5 d1 d2 d3 d4 d5 d6 d7 d8
        have hlen := HI2.out.len
        obtain ⟨n2, hn2⟩ : ∃ n2 : Nat, l2.length = n2 := ⟨_, rfl⟩
        rw [hn2] at HLn hlen
        have hlen' : ¬ (k < (n2 : Int)) := by omega
        clear hn2 hlen
        go_wp2_with fail
        refine HLn.out.mono ?_
        rintro e w6 ⟨rfl, rfl⟩
        go_wp2_with fail
        go_roundg (i - j)
        case measure => have := HJ.out; omega
        case rel => have := HJ.out; have := HI.out.2.1; exact ⟨j + 1, l2, S', congrArg (Value.int .i64) (wrap64_succ (i := j) (m := 1000000) (by omega) (by decide)), by omega, by omega, HI2.out, HZ2.out, H6.out⟩
      · have hjl' : ¬ (j : Int) < (i : Int) := by omega
        clear hjl
        go_wp2_with fail
        go_meet
        exact ⟨l, S, HJ.out.1, HJ.out.2.1, H4.out⟩
  case rest =>
    obtain ⟨l, S, hI, hz, S4⟩ := hcut
    have HJ := Lib.hid (And.intro hI hz)
    have HAL := Lib.hid (all_st S4 0 rfl (by have := hI.len; have := HK.out; omega))
    clear hI hz S4 H3
    go_wp2_with fail
    refine HAL.out.mono ?_
    rintro e w6 ⟨v, rfl, S6⟩
    obtain ⟨A6, c6, rfl⟩ := Kd.R_slice (S6.get 1 rfl).1
    obtain ⟨N, hN⟩ : ∃ N, l.length = N := ⟨_, rfl⟩
    have hNb : N ≤ 64 := by have := HJ.out.1.len; have := HK.out; omega
    have HNN := Lib.hid hN
    have H6 := Lib.hid (show St (fun _ => False) W w6 [hO g S k l, slc k52 52 (.slice A6 N c6) l] from hN ▸ S6)
    rw [hN]
    clear S6 HAL hN
    go_wp2_with fail
    go_loopg [47] (N + 1) (fun m v47 wx => ∃ (q : Nat), v47 = .int .i64 q ∧ q ≤ N ∧ N - q < m ∧ St (fun _ => False) W wx [hO g S k l, slc k52 52 (.slice A6 N c6) l])
    case atStart => exact ⟨0, rfl, by omega, by omega, H6.out⟩
    case round =>
      clear H6
      obtain ⟨q, rfl, hq, hqm, S7⟩ := hrel
      by_cases hql : q < N
      · have hql' : (q : Int) < (N : Int) := by omega
        have hq0 : (0 : Int) ≤ (q : Int) := by omega
        have hqb : (q : Int) < 1000000 := by omega
        obtain ⟨x, hx⟩ : ∃ x, l[q]? = some x := ⟨_, List.getElem?_eq_getElem (by rw [HNN.out]; exact hql)⟩
        obtain ⟨gb, cb, hv, _, _⟩ := slc_form (S7.get 1 rfl) (by rw [HNN.out]; omega)
        cases hv
        have E : ∀ p y, l[p]? = some y → ∀ c, c < 9 → wr.cell? ⟨gb, p * 9 + c, none⟩ = (eHn y)[c]? := fun p y hp c hc => (S7.elem flHn 1 rfl (i := p) (c := c) hp hc).1
        have hz := HJ.out.2 x (List.mem_of_getElem? hx)
        have h3 := (HJ.out.1.good x (List.mem_of_getElem? hx)).kind
        obtain ⟨xk, hxk⟩ : ∃ xk, x.f0.f0 = xk := ⟨_, rfl⟩
        obtain ⟨xd, hxd⟩ : ∃ xd, x.f0.f2 = xd := ⟨_, rfl⟩
        have u0 : wr.cell? ⟨gb, q * 9, none⟩ = some (.string xk) := by rw [← hxk]; exact E q x hx 0 (by decide)
        have u4 : wr.cell? ⟨gb, q * 9 + 4, none⟩ = some (.int .u8 xd) := by rw [← hxd]; exact E q x hx 4 (by decide)
        rw [hxd] at h3
        have h3b : (xd == 3) = false := by simpa using h3
        clear h3
        have u8 : wr.cell? ⟨gb, q * 9 + 8, none⟩ = some (.int .u64 0) := by rw [← hz]; exact E q x hx 8 (by decide)
        have HQ := Lib.hid (And.intro hq hqm)
        rcases Nat.eq_zero_or_pos q with e | e
        · have H7 := Lib.hid S7
          have u0' : wr.cell? ⟨gb, 0, none⟩ = some (.string xk) := by rw [e, Nat.zero_mul] at u0; exact u0
          have u4' : wr.cell? ⟨gb, 4, none⟩ = some (.int .u8 xd) := by rw [e, Nat.zero_mul, Nat.zero_add] at u4; exact u4
          have u8' : wr.cell? ⟨gb, 8, none⟩ = some (.int .u64 0) := by rw [e, Nat.zero_mul, Nat.zero_add] at u8; exact u8
          have e0 : (q : Int) = 0 := by omega
          rw [e0]
          have hN0 : (0 : Int) < (l.length : Int) := by omega
          have HE0 := Lib.hid e0
          clear S7 E hx hz hq hqm hxk hxd u0 u4 u8 e0 hql hql' hq0 hqb e
          go_upto_region 16 with fail
          go_quiet (fail)
          go_wp2_with fail
          go_roundg (l.length - q)
          case measure => have := HQ.out; omega
          case rel => have := HQ.out; have := HE0.out; exact ⟨q + 1, by congr 1; omega, by omega, by omega, H7.out.drewN _⟩
        · obtain ⟨p, rfl⟩ : ∃ p, q = p + 1 := ⟨q - 1, by omega⟩
          obtain ⟨y, hy⟩ : ∃ y, l[p]? = some y := ⟨_, List.getElem?_eq_getElem (by rw [HNN.out]; omega)⟩
          have v0 : wr.cell? ⟨gb, p * 9, none⟩ = some (.string y.f0.f0) := E p y hy 0 (by decide)
          have hlt := sorted_lt HJ.out.1.srt hy hx (Nat.lt_succ_self p)
          have H7 := Lib.hid S7
          obtain ⟨yk, hyk⟩ : ∃ yk, y.f0.f0 = yk := ⟨_, rfl⟩
          rw [hyk] at v0 hlt
          rw [hxk] at hlt
          have HLT := Lib.hid hlt
          have hp0 : (0 : Int) ≤ (p : Int) := by omega
          have hp1 : (0 : Int) < (p : Int) + 1 := by omega
          have hp2 : (0 : Int) ≤ (p : Int) + 1 := by omega
          have hpl : (p : Int) + 1 < (l.length : Int) := by omega
          have hpl2 : (p : Int) < (l.length : Int) := by omega
          have hpb : (p : Int) < 1000000 := by omega
          have hpq : (p : Int) + 1 - 1 = (p : Int) := by omega
          have hsm : (p : Int) + 1 + 1 ≤ 10000000 := by omega
          have hsm2 : (0 : Int) ≤ (p : Int) + 1 + 1 := by omega
          have HQL := Lib.hid hql
          have hpw3 := wrap_small hsm2 hsm
          have hpw1 : wrap64 ((p : Int) + 1 - 1) = (p : Int) := by rw [hpq]; exact wrap_small (Int.natCast_nonneg p) (Int.le_trans (Int.le_of_lt hpb) (by decide))
          have hpw2 : wrap64 (p : Int) = (p : Int) := wrap_small (Int.natCast_nonneg p) (Int.le_trans (Int.le_of_lt hpb) (by decide))
          clear hsm hsm2
          have hleq : ∀ w, Sem.run Try.prog (binOp .leq 9 (.string xk) (.string yk)) w = .ok (.bool false) w := fun w => leq_run hlt 9 w
          rw [Int.natCast_add_one]
          clear S7 E hx hz hq hqm hxk hyk hlt hy hql hql' hq0 hqb e
          go_upto_region 16 with fail
          go_quiet (fail)
          clear hleq hpw1 hpw2 hpq hpl hpl2 hpb hp0 hp1 hp2 u0 u4 u8 v0 h3b
          go_wp2_with fail
          go_roundg (l.length - (p + 1))
          case measure => have := HQ.out; have := HQL.out; clear hpw3; omega
          case rel => have := HQ.out; have := HQL.out; clear hpw3; exact ⟨p + 1 + 1, congrArg (Value.int .i64) (by omega), by omega, by omega, H7.out.drewN _⟩
      · have hql' : ¬ (q : Int) < (N : Int) := by omega
        have H7 := Lib.hid S7
        clear S7 hql
        go_wp2_with fail
        go_ret
        exact ⟨rfl, H7.out.base⟩
end Go.Proofs.Ytmpodcefngpnkaa
