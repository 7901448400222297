/- StorePeeks. -/
import Derived.Test.YtecgnfklfgjgaaaCU
import Derived.Test.YtecgnfklfgjgaaaOQ
import Derived.Test.YtecgnfklfgjgaaaSM
set_option linter.unusedVariables false
set_option linter.unusedSimpArgs false
namespace Go.Proofs.Ytecgnfklfgjgaaa
open Go.RowKit Go.Tat Go.Tab Go.Proofs.YtecgnfklfgjgaaaW.PrintWords PStorePeeks
def opA (x : Oq) : Array Value := #[.int .i64 x.f0, .string x.f1.f0, .int .u64 x.f1.f1.f0, .int .u32 x.f1.f1.f1, .int .u8 x.f1.f1.f2, .int .u8 x.f1.f2, .int .u32 x.f1.f3, .int .u64 x.f1.f4, .string x.f1.f5, .int .u8 x.f2]
set_option maxRecDepth 100000 in
set_option maxHeartbeats 16000000 in
theorem peeks_c (cf : S23) (ops : List Oq) (A : Option Addr) (cp : Nat) (keys : List ByteArray) (B : Option Addr) (cq : Nat) (W : World) (hC : k39.C W A ops.length ops) (hc : ops.length ≤ cp) (hg : ∀ o ∈ ops, g39 o) (hK : Kd.string.C W B keys.length keys) (hkc : keys.length ≤ cq) :
    Calls Try.prog 6 #[.agg (cfA cf), .slice A ops.length cp, .slice B keys.length cq] W fun e w' => e = .returned (.bool true) ∧ Below W.heap.size W w' := by
  have HC := Lib.hid hC
  have HG := Lib.hid hg
  have HKS := Lib.hid hK
  obtain ⟨m, hm⟩ : ∃ m, keys.length = m := ⟨_, rfl⟩
  rw [hm] at hkc ⊢
  have HM := Lib.hid hm
  have hkc' : (m : Int) ≤ (cq : Int) := by omega
  have HCU := Lib.hid (fun w (b : Below W.heap.size W w) => cut_c ops A cp w (Kd.C_below hC b) hc)
  have HFix := Lib.hid fixed_c
  clear hC hg hK hm hkc
  unfold cfA
  go_enter Try.func6, Try.ntmps6
  go_upto_region 1 with fail
  have S1 := (St.nil (fun _ => False) W).new' #[.int .i64 cf.f0, .int .i64 cf.f1, .int .i64 cf.f2] 23 W.heap.size rfl
  obtain ⟨z, hz⟩ : ∃ z, W.heap.size = z := ⟨_, rfl⟩
  rw [hz] at S1
  have HZ := Lib.hid hz
  simp only [hz]
  clear hz
  generalize World.alloc W _ = w1 at *
  have S1' : St (fun _ => False) W w1 [blk z (cfA cf) 23] := S1
  have z0 : w1.cell? ⟨z, 0, none⟩ = some (.int .i64 cf.f0) := blk_cell (S1'.get 0 rfl) 0
  have z1 : w1.cell? ⟨z, 1, none⟩ = some (.int .i64 cf.f1) := blk_cell (S1'.get 0 rfl) 1
  have z2 : w1.cell? ⟨z, 2, none⟩ = some (.int .i64 cf.f2) := blk_cell (S1'.get 0 rfl) 2
  have H1 := Lib.hid S1'
  clear S1 S1'
  by_cases hok : confOk cf.f0 cf.f1 cf.f2
  · obtain ⟨c, hc0, hc1, hc2⟩ : ∃ c : SC, cf.f0 = (c.most : Int) ∧ cf.f1 = (c.bytes : Int) ∧ cf.f2 = (c.keep : Int) := by
      unfold confOk at hok
      exact ⟨⟨cf.f0.toNat, cf.f1.toNat, cf.f2.toNat⟩, by simp; omega, by simp; omega, by simp; omega⟩
    have HOK : Hid (confOk c.most c.bytes c.keep) := Lib.hid (by rw [← hc0, ← hc1, ← hc2]; exact hok)
    rw [hc0] at z0
    rw [hc1] at z1
    rw [hc2] at z2
    have HN := Lib.hid (snew_st H1.out c HOK.out)
    have HCF := Lib.hid (And.intro hc0 (And.intro hc1 hc2))
    clear hok hc0 hc1 hc2
    go_upto_region 2 with (go_at_call 8; refine HN.out.mono ?_; rintro e w2 ⟨g, S, rfl, h2⟩)
    have S2 : St (fun _ => False) W w2 [blk z (cfA cf) 23, sO g S c ⟨[], List.replicate 64 zSt, 0⟩] := h2
    have z0 : w2.cell? ⟨z, 0, none⟩ = some (.int .i64 (c.most : Int)) := by rw [← HCF.out.1]; exact blk_cell (S2.get 0 rfl) 0
    have z1 : w2.cell? ⟨z, 1, none⟩ = some (.int .i64 (c.bytes : Int)) := by rw [← HCF.out.2.1]; exact blk_cell (S2.get 0 rfl) 1
    have z2 : w2.cell? ⟨z, 2, none⟩ = some (.int .i64 (c.keep : Int)) := by rw [← HCF.out.2.2]; exact blk_cell (S2.get 0 rfl) 2
    have HN := Lib.hid (snew_st S2 c HOK.out)
    clear h2 S2 H1
    go_upto_region 3 with (go_at_call 8; refine HN.out.mono ?_; rintro e w3 ⟨g2, S2, rfl, h3⟩)
    have H2 : Hid (St (fun _ => False) W w3 [blk z (cfA cf) 23, sO g S c ⟨[], List.replicate 64 zSt, 0⟩, sO g2 S2 c ⟨[], List.replicate 64 zSt, 0⟩]) := Lib.hid h3
    clear h3 HN z0 z1 z2
    go_upto_region 5 with (go_at_call 9; refine (HFix.out _).mono ?_; rintro e w3 ⟨rfl, b3⟩)
    have H3 := Lib.hid (H2.out.below b3)
    clear b3 H2
    go_wp2_with (go_at_call 10; refine (HCU.out _ H3.out.base).mono ?_; rintro e w4 ⟨i, rfl, hi, hi8, hcb, b4⟩; have H4 := Lib.hid (H3.out.below b4); have HI := Lib.hid (And.intro hi (And.intro hi8 hcb)); clear b4 hi hi8 hcb)
    go_loopg [11, 57] (i + 1) (fun kq v11 v57 wx => ∃ (j : Nat) (now : Int) (s : SM) (S S2 : Nat → Prop), v11 = .int .u64 now ∧ v57 = .int .i64 j ∧ j ≤ i ∧ i - j < kq ∧ 0 ≤ now ∧ now ≤ 255 * (j : Int) ∧ s.ev + s.L.length ≤ j ∧ St (fun _ => False) W wx [blk z (cfA cf) 23, sO g S c s, sO g2 S2 c s])
    case atStart => exact ⟨0, 0, _, S, S2, rfl, rfl, by omega, by omega, by omega, by omega, by simp, H4.out⟩
    case round =>
      clear H3 H4
      obtain ⟨j, now, s, S, S2, rfl, rfl, hj, hjm, hn0, hn1, hev, S5⟩ := hrel
      have H5 := Lib.hid S5
      have HJ := Lib.hid (And.intro hj (And.intro hjm hev))
      clear S5 hjm
      by_cases hjl : j < i
      · have hjl' : (j : Int) < (i : Int) := by omega
        have hj81 : (j : Int) ≤ 81 := by have := HI.out.2.1; omega
        have hnow : now ≤ 30000 := by omega
        obtain ⟨x, hx⟩ : ∃ x, ops[j]? = some x := ⟨_, List.getElem?_eq_getElem (by have := HI.out.1; omega)⟩
        have hxb := HI.out.2.2 x (List.mem_of_getElem? (i := j) (by rw [List.getElem?_take_of_lt hjl]; exact hx))
        have hxg := HG.out x (List.mem_of_getElem? hx)
        obtain ⟨ad, b, o, cs, rfl, had, hb, hK, hcs⟩ := C_at HC.out hx (by decide)
        obtain ⟨ok, r, on⟩ := x
        obtain rfl := k39_open hK
        have hon := u8_wf hxg.2.2
        have hph := (u64_wf hxg.2.1.2.1.1).1
        have hks : r.f0.size < 4611686018427387904 := by have := hxb.1; simp only at this; omega
        have hBw := H5.out.base
        dsimp only at hcs hon hph
        have c0 := (hBw.cell (p := ⟨b, o, none⟩) hb).trans (hcs 0 _ rfl)
        have c1 := (hBw.cell (p := ⟨b, o + 1, none⟩) hb).trans (hcs 1 _ rfl)
        have c2 := (hBw.cell (p := ⟨b, o + 2, none⟩) hb).trans (hcs 2 _ rfl)
        have c3 := (hBw.cell (p := ⟨b, o + 3, none⟩) hb).trans (hcs 3 _ rfl)
        have c4 := (hBw.cell (p := ⟨b, o + 4, none⟩) hb).trans (hcs 4 _ rfl)
        have c5 := (hBw.cell (p := ⟨b, o + 5, none⟩) hb).trans (hcs 5 _ rfl)
        have c6 := (hBw.cell (p := ⟨b, o + 6, none⟩) hb).trans (hcs 6 _ rfl)
        have c7 := (hBw.cell (p := ⟨b, o + 7, none⟩) hb).trans (hcs 7 _ rfl)
        have c8 := (hBw.cell (p := ⟨b, o + 8, none⟩) hb).trans (hcs 8 _ rfl)
        have c9 := (hBw.cell (p := ⟨b, o + 9, none⟩) hb).trans (hcs 9 _ rfl)
        have had' : ad.add (j * 10) = ⟨b, o, none⟩ := had
        obtain ⟨hon0, hon1⟩ := hon
        have HON := Lib.hid (And.intro hon0 (And.intro hon1 (And.intro hn0 hn1)))
        have HPK := Lib.hid (And.intro hks hph)
        have HB5 := Lib.hid hBw
        clear hK hcs had hx hxb hxg hBw hks hph hj hev hn1
        go_upto_region 9 with fail
        have S6 := H5.out.new' #[.int .i64 ok, .string r.f0, .int .u64 r.f1.f0, .int .u32 r.f1.f1, .int .u8 r.f1.f2, .int .u8 r.f2, .int .u32 r.f3, .int .u64 r.f4, .string r.f5, .int .u8 on] 39 wr.heap.size rfl
        obtain ⟨z9, hz9⟩ : ∃ z9, wr.heap.size = z9 := ⟨_, rfl⟩
        rw [hz9] at S6 ⊢
        clear hz9
        generalize World.alloc wr _ = w6 at *
        have S6' : St (fun _ => False) W w6 [blk z (cfA cf) 23, sO g S c s, sO g2 S2 c s, blk z9 (opA ⟨ok, r, on⟩) 39] := S6
        have d9 : w6.cell? ⟨z9, 9, none⟩ = some (.int .u8 on) := blk_cell (S6'.get 3 rfl) 9
        have hpe := put_ev c s r (now + on)
        obtain ⟨res, hres⟩ : ∃ res, putF c s r (now + on) = res := ⟨_, rfl⟩
        rw [hres] at hpe
        have HRES := Lib.hid hres
        have hev1 : res.2.2.ev + res.2.2.L.length ≤ j + 1 := by have := HJ.out.2.2; omega
        have HEV := Lib.hid hev1
        have H6 := Lib.hid S6'
        clear S6 S6' c0 c1 c2 c3 c4 c5 c6 c7 c8 c9 had' H5 hres hpe hev1
        go_upto_region 10 with fail
        clear d9 hon0 hon1 hn0 hnow
        by_cases hjk : j < m
        · have hjk' : (j : Int) < (m : Int) := by omega
          obtain ⟨key, hkey⟩ : ∃ key, keys[j]? = some key := ⟨_, List.getElem?_eq_getElem (by rw [HM.out]; exact hjk)⟩
          obtain ⟨bd, kb, ko, kcs, rfl, hbd, hkb, hKK, hkcs⟩ := C_at HKS.out hkey (by decide)
          obtain rfl : kcs = [.string key] := hKK
          have k0 := (H6.out.base.cell (p := ⟨kb, ko, none⟩) hkb).trans (hkcs 0 _ rfl)
          have hbd' : bd.add j = ⟨kb, ko, none⟩ := by have := hbd; rw [show j * Kd.string.sz = j from Nat.mul_one j] at this; exact this
          have HKB := Lib.hid (And.intro hkb (hkcs 0 _ rfl))
          clear hkcs hkb hbd hkey hjk
          by_cases hsz : (key.size : Int) < 1000
          · have HPE := Lib.hid (peek_c (H6.out.get 1 rfl) key (by omega))
            have HRR := Lib.hid (rrange_c key (by omega))
            go_upto_region 12 with (go_at_call 14; refine HPE.out.mono ?_; rintro e w7 ⟨rfl, b7⟩)
            have H6 := Lib.hid (H6.out.below b7)
            have k0 : w7.cell? ⟨kb, ko, none⟩ = some (.string key) := (H6.out.base.cell (p := ⟨kb, ko, none⟩) HKB.out.1).trans HKB.out.2
            clear b7 HPE
            go_upto_region 13 with (first | (go_at_call 21; refine (HRR.out _).mono ?_; rintro e w8 ⟨rfl, ⟨n8, rfl⟩⟩; have HRA := Lib.hid (range_o (H6.out.drewN n8) (i := 1) rfl (rgN key : Int))) | (go_at_call 16; refine HRA.out.mono ?_; rintro e w10 ⟨v, ys, S10, rfl, hpy, hso, h10⟩))
            have H6 : Hid (St (fun _ => False) W w10 [blk z (cfA cf) 23, sO g S10 c s, sO g2 S2 c s, blk z9 (opA ⟨ok, r, on⟩) 39]) := Lib.hid (St.drop h10 4)
            clear h10 hpy hso HRA k0 HRR hbd' hsz hjk'
            have HPU1 := Lib.hid (put_o H6.out (i := 1) rfl r (now + on) HPK.out.1 HPK.out.2 (by have := HJ.out; have := HI.out.2.1; omega))
            rw [HRES.out] at HPU1
            obtain ⟨d1, d2, d3, d4, d5, d6, d7, d8⟩ : w10.cell? ⟨z9, 1, none⟩ = some (.string r.f0) ∧ w10.cell? ⟨z9, 2, none⟩ = some (.int .u64 r.f1.f0) ∧ w10.cell? ⟨z9, 3, none⟩ = some (.int .u32 r.f1.f1) ∧ w10.cell? ⟨z9, 4, none⟩ = some (.int .u8 r.f1.f2) ∧ w10.cell? ⟨z9, 5, none⟩ = some (.int .u8 r.f2) ∧ w10.cell? ⟨z9, 6, none⟩ = some (.int .u32 r.f3) ∧ w10.cell? ⟨z9, 7, none⟩ = some (.int .u64 r.f4) ∧ w10.cell? ⟨z9, 8, none⟩ = some (.string r.f5) :=
              ⟨blk_cell (H6.out.get 3 rfl) 1, blk_cell (H6.out.get 3 rfl) 2, blk_cell (H6.out.get 3 rfl) 3, blk_cell (H6.out.get 3 rfl) 4, blk_cell (H6.out.get 3 rfl) 5, blk_cell (H6.out.get 3 rfl) 6, blk_cell (H6.out.get 3 rfl) 7, blk_cell (H6.out.get 3 rfl) 8⟩
            clear H6
            go_upto_region 14 with (go_at_call 11; refine HPU1.out.mono ?_; rintro e y7 ⟨rfl, T7, h7⟩)
            have H7 : Hid (St (fun _ => False) W y7 [blk z (cfA cf) 23, sO g T7 c res.2.2, sO g2 S2 c s, blk z9 (opA ⟨ok, r, on⟩) 39]) := Lib.hid h7
            clear d1 d2 d3 d4 d5 d6 d7 d8 h7 HPU1
            have HPU2 := Lib.hid (put_o H7.out (i := 2) rfl r (now + on) HPK.out.1 HPK.out.2 (by have := HJ.out; have := HI.out.2.1; omega))
            rw [HRES.out] at HPU2
            obtain ⟨d1, d2, d3, d4, d5, d6, d7, d8⟩ : y7.cell? ⟨z9, 1, none⟩ = some (.string r.f0) ∧ y7.cell? ⟨z9, 2, none⟩ = some (.int .u64 r.f1.f0) ∧ y7.cell? ⟨z9, 3, none⟩ = some (.int .u32 r.f1.f1) ∧ y7.cell? ⟨z9, 4, none⟩ = some (.int .u8 r.f1.f2) ∧ y7.cell? ⟨z9, 5, none⟩ = some (.int .u8 r.f2) ∧ y7.cell? ⟨z9, 6, none⟩ = some (.int .u32 r.f3) ∧ y7.cell? ⟨z9, 7, none⟩ = some (.int .u64 r.f4) ∧ y7.cell? ⟨z9, 8, none⟩ = some (.string r.f5) :=
              ⟨blk_cell (H7.out.get 3 rfl) 1, blk_cell (H7.out.get 3 rfl) 2, blk_cell (H7.out.get 3 rfl) 3, blk_cell (H7.out.get 3 rfl) 4, blk_cell (H7.out.get 3 rfl) 5, blk_cell (H7.out.get 3 rfl) 6, blk_cell (H7.out.get 3 rfl) 7, blk_cell (H7.out.get 3 rfl) 8⟩
            clear H7
            go_wp2_with (go_at_call 11; refine HPU2.out.mono ?_; rintro e y8 ⟨rfl, T8, h8⟩)
            have H8 : Hid (St (fun _ => False) W y8 [blk z (cfA cf) 23, sO g T7 c res.2.2, sO g2 T8 c res.2.2]) := Lib.hid (St.drop h8 3)
            clear d1 d2 d3 d4 d5 d6 d7 d8 h8 HPU2
            go_roundg (i - j)
            case measure => have := HJ.out; omega
            case rel =>
              have h1 := HJ.out
              have h2 := HON.out
              exact ⟨j + 1, now + on, res.2.2, T7, T8, rfl, congrArg (Value.int .i64) (by omega), by omega, by omega, by omega, by omega, HEV.out, H8.out⟩
          · clear HKB
            go_upto_region 13 with fail
            clear k0 hbd' hsz hjk'
            have HPU1 := Lib.hid (put_o H6.out (i := 1) rfl r (now + on) HPK.out.1 HPK.out.2 (by have := HJ.out; have := HI.out.2.1; omega))
            rw [HRES.out] at HPU1
            obtain ⟨d1, d2, d3, d4, d5, d6, d7, d8⟩ : w6.cell? ⟨z9, 1, none⟩ = some (.string r.f0) ∧ w6.cell? ⟨z9, 2, none⟩ = some (.int .u64 r.f1.f0) ∧ w6.cell? ⟨z9, 3, none⟩ = some (.int .u32 r.f1.f1) ∧ w6.cell? ⟨z9, 4, none⟩ = some (.int .u8 r.f1.f2) ∧ w6.cell? ⟨z9, 5, none⟩ = some (.int .u8 r.f2) ∧ w6.cell? ⟨z9, 6, none⟩ = some (.int .u32 r.f3) ∧ w6.cell? ⟨z9, 7, none⟩ = some (.int .u64 r.f4) ∧ w6.cell? ⟨z9, 8, none⟩ = some (.string r.f5) :=
              ⟨blk_cell (H6.out.get 3 rfl) 1, blk_cell (H6.out.get 3 rfl) 2, blk_cell (H6.out.get 3 rfl) 3, blk_cell (H6.out.get 3 rfl) 4, blk_cell (H6.out.get 3 rfl) 5, blk_cell (H6.out.get 3 rfl) 6, blk_cell (H6.out.get 3 rfl) 7, blk_cell (H6.out.get 3 rfl) 8⟩
            clear H6
            go_upto_region 14 with (go_at_call 11; refine HPU1.out.mono ?_; rintro e y7 ⟨rfl, T7, h7⟩)
            have H7 : Hid (St (fun _ => False) W y7 [blk z (cfA cf) 23, sO g T7 c res.2.2, sO g2 S2 c s, blk z9 (opA ⟨ok, r, on⟩) 39]) := Lib.hid h7
            clear d1 d2 d3 d4 d5 d6 d7 d8 h7 HPU1
            have HPU2 := Lib.hid (put_o H7.out (i := 2) rfl r (now + on) HPK.out.1 HPK.out.2 (by have := HJ.out; have := HI.out.2.1; omega))
            rw [HRES.out] at HPU2
            obtain ⟨d1, d2, d3, d4, d5, d6, d7, d8⟩ : y7.cell? ⟨z9, 1, none⟩ = some (.string r.f0) ∧ y7.cell? ⟨z9, 2, none⟩ = some (.int .u64 r.f1.f0) ∧ y7.cell? ⟨z9, 3, none⟩ = some (.int .u32 r.f1.f1) ∧ y7.cell? ⟨z9, 4, none⟩ = some (.int .u8 r.f1.f2) ∧ y7.cell? ⟨z9, 5, none⟩ = some (.int .u8 r.f2) ∧ y7.cell? ⟨z9, 6, none⟩ = some (.int .u32 r.f3) ∧ y7.cell? ⟨z9, 7, none⟩ = some (.int .u64 r.f4) ∧ y7.cell? ⟨z9, 8, none⟩ = some (.string r.f5) :=
              ⟨blk_cell (H7.out.get 3 rfl) 1, blk_cell (H7.out.get 3 rfl) 2, blk_cell (H7.out.get 3 rfl) 3, blk_cell (H7.out.get 3 rfl) 4, blk_cell (H7.out.get 3 rfl) 5, blk_cell (H7.out.get 3 rfl) 6, blk_cell (H7.out.get 3 rfl) 7, blk_cell (H7.out.get 3 rfl) 8⟩
            clear H7
            go_wp2_with (go_at_call 11; refine HPU2.out.mono ?_; rintro e y8 ⟨rfl, T8, h8⟩)
            have H8 : Hid (St (fun _ => False) W y8 [blk z (cfA cf) 23, sO g T7 c res.2.2, sO g2 T8 c res.2.2]) := Lib.hid (St.drop h8 3)
            clear d1 d2 d3 d4 d5 d6 d7 d8 h8 HPU2
            go_roundg (i - j)
            case measure => have := HJ.out; omega
            case rel =>
              have h1 := HJ.out
              have h2 := HON.out
              exact ⟨j + 1, now + on, res.2.2, T7, T8, rfl, congrArg (Value.int .i64) (by omega), by omega, by omega, by omega, by omega, HEV.out, H8.out⟩
        · have hjk' : ¬ ((j : Int) < (m : Int)) := by omega
          go_upto_region 13 with fail
          clear hjk' hjk
          have HPU1 := Lib.hid (put_o H6.out (i := 1) rfl r (now + on) HPK.out.1 HPK.out.2 (by have := HJ.out; have := HI.out.2.1; omega))
          rw [HRES.out] at HPU1
          obtain ⟨d1, d2, d3, d4, d5, d6, d7, d8⟩ : w6.cell? ⟨z9, 1, none⟩ = some (.string r.f0) ∧ w6.cell? ⟨z9, 2, none⟩ = some (.int .u64 r.f1.f0) ∧ w6.cell? ⟨z9, 3, none⟩ = some (.int .u32 r.f1.f1) ∧ w6.cell? ⟨z9, 4, none⟩ = some (.int .u8 r.f1.f2) ∧ w6.cell? ⟨z9, 5, none⟩ = some (.int .u8 r.f2) ∧ w6.cell? ⟨z9, 6, none⟩ = some (.int .u32 r.f3) ∧ w6.cell? ⟨z9, 7, none⟩ = some (.int .u64 r.f4) ∧ w6.cell? ⟨z9, 8, none⟩ = some (.string r.f5) :=
            ⟨blk_cell (H6.out.get 3 rfl) 1, blk_cell (H6.out.get 3 rfl) 2, blk_cell (H6.out.get 3 rfl) 3, blk_cell (H6.out.get 3 rfl) 4, blk_cell (H6.out.get 3 rfl) 5, blk_cell (H6.out.get 3 rfl) 6, blk_cell (H6.out.get 3 rfl) 7, blk_cell (H6.out.get 3 rfl) 8⟩
          clear H6
          go_upto_region 14 with (go_at_call 11; refine HPU1.out.mono ?_; rintro e y7 ⟨rfl, T7, h7⟩)
          have H7 : Hid (St (fun _ => False) W y7 [blk z (cfA cf) 23, sO g T7 c res.2.2, sO g2 S2 c s, blk z9 (opA ⟨ok, r, on⟩) 39]) := Lib.hid h7
          clear d1 d2 d3 d4 d5 d6 d7 d8 h7 HPU1
          have HPU2 := Lib.hid (put_o H7.out (i := 2) rfl r (now + on) HPK.out.1 HPK.out.2 (by have := HJ.out; have := HI.out.2.1; omega))
          rw [HRES.out] at HPU2
          obtain ⟨d1, d2, d3, d4, d5, d6, d7, d8⟩ : y7.cell? ⟨z9, 1, none⟩ = some (.string r.f0) ∧ y7.cell? ⟨z9, 2, none⟩ = some (.int .u64 r.f1.f0) ∧ y7.cell? ⟨z9, 3, none⟩ = some (.int .u32 r.f1.f1) ∧ y7.cell? ⟨z9, 4, none⟩ = some (.int .u8 r.f1.f2) ∧ y7.cell? ⟨z9, 5, none⟩ = some (.int .u8 r.f2) ∧ y7.cell? ⟨z9, 6, none⟩ = some (.int .u32 r.f3) ∧ y7.cell? ⟨z9, 7, none⟩ = some (.int .u64 r.f4) ∧ y7.cell? ⟨z9, 8, none⟩ = some (.string r.f5) :=
            ⟨blk_cell (H7.out.get 3 rfl) 1, blk_cell (H7.out.get 3 rfl) 2, blk_cell (H7.out.get 3 rfl) 3, blk_cell (H7.out.get 3 rfl) 4, blk_cell (H7.out.get 3 rfl) 5, blk_cell (H7.out.get 3 rfl) 6, blk_cell (H7.out.get 3 rfl) 7, blk_cell (H7.out.get 3 rfl) 8⟩
          clear H7
          go_wp2_with (go_at_call 11; refine HPU2.out.mono ?_; rintro e y8 ⟨rfl, T8, h8⟩)
          have H8 : Hid (St (fun _ => False) W y8 [blk z (cfA cf) 23, sO g T7 c res.2.2, sO g2 T8 c res.2.2]) := Lib.hid (St.drop h8 3)
          clear d1 d2 d3 d4 d5 d6 d7 d8 h8 HPU2
          go_roundg (i - j)
          case measure => have := HJ.out; omega
          case rel =>
            have h1 := HJ.out
            have h2 := HON.out
            exact ⟨j + 1, now + on, res.2.2, T7, T8, rfl, congrArg (Value.int .i64) (by omega), by omega, by omega, by omega, by omega, HEV.out, H8.out⟩
      · have hje : j = i := by have := HJ.out; omega
        subst hje
        have hjl' : ¬ ((j : Int) < (j : Int)) := by omega
        have HSI := Lib.hid (so_si (H5.out.get 1 rfl))
        have HB0 := Lib.hid H5.out
        clear H5 hjl
        go_wp2_with fail
        go_loopg [103] 65 (fun kq v103 wx => ∃ (k : Nat) (S S2 : Nat → Prop), v103 = .int .i64 k ∧ k ≤ 64 ∧ 64 - k < kq ∧ St (fun _ => False) W wx [blk z (cfA cf) 23, sO g S c s, sO g2 S2 c s])
        case atStart => exact ⟨0, S, S2, rfl, by omega, by omega, HB0.out⟩
        case round =>
          clear HB0
          obtain ⟨k, S3, S4, rfl, hk, hkm, S9⟩ := hrel
          have HK := Lib.hid (And.intro hk hkm)
          by_cases hkl : k < 64
          · have hkl' : (k : Int) < 64 := by omega
            have HRA1 := Lib.hid (range_o S9 (i := 1) rfl (k : Int))
            have HFL : Hid (∀ (w1 : World) (S1 S2 : Nat → Prop), St (fun _ => False) W w1 [blk z (cfA cf) 23, sO g S1 c s, sO g2 S2 c s] → (Calls Try.prog 22 #[.pointer (some ⟨g, 0, none⟩), .int .i64 (k : Int)] w1 fun e w' => e = .returned (.agg (eStp (floorV s k)).toArray) ∧ Below w1.heap.size w1 w') ∧ (Calls Try.prog 22 #[.pointer (some ⟨g2, 0, none⟩), .int .i64 (k : Int)] w1 fun e w' => e = .returned (.agg (eStp (floorV s k)).toArray) ∧ Below w1.heap.size w1 w')) :=
              Lib.hid fun w1 S1 S2 h => ⟨sfloor_c (h.get 1 rfl) _, sfloor_c (h.get 2 rfl) _⟩
            obtain ⟨fl, hfl⟩ : ∃ fl, floorV s k = fl := ⟨_, rfl⟩
            rw [hfl] at HFL
            obtain ⟨fl0, fl1, fl2⟩ := fl
            unfold eStp at HFL
            have hu := Try.underlying35
            have hw := fun (d : Nat) (W : World) => eqA35 d W fl0 fl0 fl1 fl1 fl2 fl2
            clear S9 hk hkm hkl hfl
            go_wp2_with (first | (go_at_call 16; refine HRA1.out.mono ?_; rintro e w10 ⟨v, ys, S10, rfl, hpy, hso, h10⟩; obtain ⟨A2, c2, hv⟩ := Kd.R_slice (h10.get 3 rfl).1; subst hv; have HY := Lib.hid (And.intro hpy hso); have HRA2 := Lib.hid (range_o h10 (i := 2) rfl (k : Int)); clear h10 hpy hso HRA1) | (go_at_call 16; refine HRA2.out.mono ?_; rintro e w11 ⟨v, zs, S11, rfl, hpz, hsz, h11⟩; obtain ⟨A3, c3, hv⟩ := Kd.R_slice (h11.get 4 rfl).1; subst hv; obtain ⟨dd, hsi⟩ := HSI.out; have hyz := range_same hsi hpz HY.out.1 hsz HY.out.2; subst hyz; have hln := range_len hsi hpz; have HSA := Lib.hid (same_c zs (by omega) A2 A3 c2 c3 w11 (h11.get 3 rfl) (h11.get 4 rfl)); have H11 : Hid (St (fun _ => False) W w11 [blk z (cfA cf) 23, sO g S10 c s, sO g2 S11 c s]) := Lib.hid (St.drop (St.drop h11 4) 3); clear h11 hpz hsz HRA2 hsi hln) | (go_at_call 19; refine HSA.out.mono ?_; rintro e w12 ⟨rfl, n12, rfl⟩; have HF1 := Lib.hid (H11.out.drewN n12)) | (go_at_call 22; refine (HFL.out _ _ _ HF1.out).1.mono ?_; rintro e w13 ⟨rfl, b13⟩; have HF2 := Lib.hid (HF1.out.below b13); clear b13 HF1) | (go_at_call 22; refine (HFL.out _ _ _ HF2.out).2.mono ?_; rintro e w14 ⟨rfl, b14⟩; have HF3 := Lib.hid (HF2.out.below b14); clear b14 HF2))
            go_roundg (64 - k)
            case measure => have := HK.out; omega
            case rel =>
              have := HK.out
              exact ⟨k + 1, S10, S11, congrArg (Value.int .i64) (by omega), by omega, by omega, HF3.out⟩
          · have hke : k = 64 := by omega
            subst hke
            have hkl' : ¬ (((64 : Nat) : Int) < 64) := by omega
            have HE1 := Lib.hid (sev_c (S9.get 1 rfl))
            have HE2 := Lib.hid (sev_c (S9.get 2 rfl))
            have HB := Lib.hid S9.base
            generalize s.ev = ev at *
            clear S9 hk hkm hkl
            go_wp2_with (first | (go_at_call 23; refine HE1.out.mono ?_; rintro e w7 ⟨rfl, rfl⟩) | (go_at_call 23; refine HE2.out.mono ?_; rintro e w7 ⟨rfl, rfl⟩))
            go_ret
            exact ⟨rfl, HB.out⟩
  · have HN := Lib.hid (fun w => snew_no cf.f0 cf.f1 cf.f2 w hok)
    clear hok
    go_wp2_with (first | (go_at_call 8; refine (HN.out _).mono ?_; rintro e w2 ⟨rfl, rfl⟩) | (go_at_call 9; refine (HFix.out _).mono ?_; rintro e w3 ⟨rfl, b3⟩; have HB3 := Lib.hid b3; clear b3))
    go_ret
    exact ⟨rfl, H1.out.base.trans (HB3.out.mono H1.out.base.size)⟩
theorem peeks_row (a0 : S23) (cs : List Value) (ops : List Oq) (A : Option Addr) (cp : Nat) (keys : List ByteArray) (B : Option Addr) (cq : Nat) (W : World) (hK : k23.K W a0 cs) (hC : k39.C W A ops.length ops) (hc : ops.length ≤ cp) (hg : ∀ o ∈ ops, g39 o) (hKk : Kd.string.C W B keys.length keys) (hkc : keys.length ≤ cq) :
    Calls Try.prog 6 #[.agg cs.toArray, .slice A ops.length cp, .slice B keys.length cq] W fun e w' => e = .returned (.bool true) ∧ Below W.heap.size W w' := by
  rw [k23_open hK]
  exact peeks_c a0 ops A cp keys B cq W hC hc hg hKk hkc
end Go.Proofs.Ytecgnfklfgjgaaa
