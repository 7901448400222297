/- StoreBounded. -/
import Derived.Test.YtecgnfklfgjgaaaCU
import Derived.Test.YtecgnfklfgjgaaaOQ
set_option linter.unusedVariables false
set_option linter.unusedSimpArgs false
namespace Go.Proofs.Ytecgnfklfgjgaaa
open Go.RowKit Go.Tat Go.Tab Go.Proofs.YtecgnfklfgjgaaaW.PrintWords PStorePeeks
/-! ### All ranges together -/
def belowR (k : Nat) (r : Rc) : Bool := decide (rgN r.f0 < k)
theorem below_succ (L : List Rc) (k : Nat) : szL (L.filter (belowR (k + 1))) = szL (L.filter (belowR k)) + szL (L.filter (inR (k : Int))) ∧ (L.filter (belowR (k + 1))).length = (L.filter (belowR k)).length + (L.filter (inR (k : Int))).length := by
  induction L with
  | nil => exact ⟨rfl, rfl⟩
  | cons r L ih =>
    obtain ⟨h1, h2⟩ := ih
    have e1 : belowR (k + 1) r = decide (rgN r.f0 < k + 1) := rfl
    have e2 : belowR k r = decide (rgN r.f0 < k) := rfl
    have e3 : inR (k : Int) r = decide ((rgN r.f0 : Int) = k) := rfl
    rcases Nat.lt_trichotomy (rgN r.f0) k with h | h | h
    · have a1 : belowR (k + 1) r = true := by rw [e1]; exact decide_eq_true (by omega)
      have a2 : belowR k r = true := by rw [e2]; exact decide_eq_true h
      have a3 : ¬ (inR (k : Int) r = true) := by rw [e3]; simp; omega
      rw [List.filter_cons_of_pos a1, List.filter_cons_of_pos a2, List.filter_cons_of_neg a3, szL_cons, szL_cons, List.length_cons, List.length_cons]
      omega
    · have a1 : belowR (k + 1) r = true := by rw [e1]; exact decide_eq_true (by omega)
      have a2 : ¬ (belowR k r = true) := by rw [e2]; simp; omega
      have a3 : inR (k : Int) r = true := by rw [e3]; exact decide_eq_true (by omega)
      rw [List.filter_cons_of_pos a1, List.filter_cons_of_neg a2, List.filter_cons_of_pos a3, szL_cons, szL_cons, List.length_cons, List.length_cons]
      omega
    · have a1 : ¬ (belowR (k + 1) r = true) := by rw [e1]; simp; omega
      have a2 : ¬ (belowR k r = true) := by rw [e2]; simp; omega
      have a3 : ¬ (inR (k : Int) r = true) := by rw [e3]; simp; omega
      rw [List.filter_cons_of_neg a1, List.filter_cons_of_neg a2, List.filter_cons_of_neg a3]
      exact ⟨h1, h2⟩
theorem below_all (L : List Rc) : L.filter (belowR 64) = L := by
  rw [List.filter_eq_self]
  intro r _
  exact decide_eq_true (rgN_lt _)
theorem below_none (L : List Rc) : L.filter (belowR 0) = [] := by
  rw [List.filter_eq_nil_iff]
  intro r _
  simp [belowR]
theorem szL_take {ys : List Rc} {q : Nat} {r : Rc} (h : ys[q]? = some r) : szL (ys.take (q + 1)) = szL (ys.take q) + wgt r := by
  rw [List.take_add_one, h]
  unfold szL
  simp
theorem szL_le_take (ys : List Rc) (q : Nat) : szL (ys.take q) ≤ szL ys := by
  have h := List.take_append_drop q ys
  have : szL ys = szL (ys.take q) + szL (ys.drop q) := by
    unfold szL
    conv => lhs; rw [← h]
    rw [List.map_append, List.sum_append]
  omega
theorem szL_filter (ys : List Rc) (f : Rc → Bool) : szL (ys.filter f) ≤ szL ys := by
  induction ys with
  | nil => exact Nat.le_refl _
  | cons r ys ih =>
    by_cases h : f r = true
    · rw [List.filter_cons_of_pos h, szL_cons, szL_cons]; omega
    · rw [List.filter_cons_of_neg h, szL_cons]; omega
set_option maxRecDepth 100000 in
set_option maxHeartbeats 16000000 in
theorem bounded_c (cf : S23) (ops : List Oq) (A : Option Addr) (cp : Nat) (W : World) (hC : k39.C W A ops.length ops) (hc : ops.length ≤ cp) (hg : ∀ o ∈ ops, g39 o) :
    Calls Try.prog 4 #[.agg (cfA cf), .slice A ops.length cp] W fun e w' => e = .returned (.bool true) ∧ Below W.heap.size W w' := by
  have HC := Lib.hid hC
  have HG := Lib.hid hg
  have HCU := Lib.hid (fun w (b : Below W.heap.size W w) => cut_c ops A cp w (Kd.C_below hC b) hc)
  have HFix := Lib.hid fixed_c
  clear hC hg
  unfold cfA
  go_enter Try.func4, Try.ntmps4
  go_upto_region 1 with fail
  have S1 := (St.nil (fun _ => False) W).new' #[.int .i64 cf.f0, .int .i64 cf.f1, .int .i64 cf.f2] 23 W.heap.size rfl
  obtain ⟨z, hz⟩ : ∃ z, W.heap.size = z := ⟨_, rfl⟩
  rw [hz] at S1
  have HZ := Lib.hid hz
  simp only [hz]
  clear hz
  generalize World.alloc W _ = w1 at *
  have S1' : St (fun _ => False) W w1 [blk z (cfA cf) 23] := S1
  have z0 : w1.cell? ⟨z, 0, none⟩ = some (.int .i64 cf.f0) := blk_cell (S1'.get 0 rfl) 0
  have z1 : w1.cell? ⟨z, 1, none⟩ = some (.int .i64 cf.f1) := blk_cell (S1'.get 0 rfl) 1
  have z2 : w1.cell? ⟨z, 2, none⟩ = some (.int .i64 cf.f2) := blk_cell (S1'.get 0 rfl) 2
  have H1 := Lib.hid S1'
  clear S1 S1'
  by_cases hok : confOk cf.f0 cf.f1 cf.f2
  · obtain ⟨c, hc0, hc1, hc2⟩ : ∃ c : SC, cf.f0 = (c.most : Int) ∧ cf.f1 = (c.bytes : Int) ∧ cf.f2 = (c.keep : Int) := by
      unfold confOk at hok
      exact ⟨⟨cf.f0.toNat, cf.f1.toNat, cf.f2.toNat⟩, by simp; omega, by simp; omega, by simp; omega⟩
    have HOK := Lib.hid hok
    rw [hc0] at z0
    rw [hc1] at z1
    rw [hc2] at z2
    have HN := Lib.hid (snew_st H1.out c (by rw [← hc0, ← hc1, ← hc2]; exact hok))
    have HCF := Lib.hid (And.intro hc0 (And.intro hc1 hc2))
    clear hok hc0 hc1 hc2
    go_upto_region 2 with (go_at_call 8; refine HN.out.mono ?_; rintro e w2 ⟨g, S, rfl, h2⟩)
    have H2 : Hid (St (fun _ => False) W w2 [blk z (cfA cf) 23, sO g S c ⟨[], List.replicate 64 zSt, 0⟩]) := Lib.hid h2
    clear h2 HN z0 z1 z2 H1
    go_upto_region 4 with (go_at_call 9; refine (HFix.out _).mono ?_; rintro e w3 ⟨rfl, b3⟩)
    have H3 := Lib.hid (H2.out.below b3)
    clear b3 H2
    go_wp2_with (go_at_call 10; refine (HCU.out _ H3.out.base).mono ?_; rintro e w4 ⟨i, rfl, hi, hi8, hcb, b4⟩; have H4 := Lib.hid (H3.out.below b4); have HI := Lib.hid (And.intro hi (And.intro hi8 hcb)); clear b4 hi hi8 hcb)
    go_loopg [7, 39] (i + 1) (fun kq v7 v39 wx => ∃ (j : Nat) (now : Int) (s : SM) (S : Nat → Prop), v7 = .int .u64 now ∧ v39 = .int .i64 j ∧ j ≤ i ∧ i - j < kq ∧ 0 ≤ now ∧ now ≤ 255 * (j : Int) ∧ s.ev + s.L.length ≤ j ∧ St (fun _ => False) W wx [blk z (cfA cf) 23, sO g S c s])
    case atStart => exact ⟨0, 0, _, S, rfl, rfl, by omega, by omega, by omega, by omega, by simp, H4.out⟩
    case round =>
      clear H3 H4
      obtain ⟨j, now, s, S, rfl, rfl, hj, hjm, hn0, hn1, hev, S5⟩ := hrel
      have H5 := Lib.hid S5
      have HJ := Lib.hid (And.intro hj (And.intro hjm hev))
      clear S5 hjm
      by_cases hjl : j < i
      · have hjl' : (j : Int) < (i : Int) := by omega
        have hj81 : (j : Int) ≤ 81 := by have := HI.out.2.1; omega
        have hnow : now ≤ 30000 := by omega
        obtain ⟨x, hx⟩ : ∃ x, ops[j]? = some x := ⟨_, List.getElem?_eq_getElem (by have := HI.out.1; omega)⟩
        have hxb := HI.out.2.2 x (List.mem_of_getElem? (i := j) (by rw [List.getElem?_take_of_lt hjl]; exact hx))
        have hxg := HG.out x (List.mem_of_getElem? hx)
        obtain ⟨ad, b, o, cs, rfl, had, hb, hK, hcs⟩ := C_at HC.out hx (by decide)
        obtain ⟨ok, r, on⟩ := x
        obtain rfl := k39_open hK
        have hon := u8_wf hxg.2.2
        have hph := (u64_wf hxg.2.1.2.1.1).1
        have hks : r.f0.size < 4611686018427387904 := by have := hxb.1; simp only at this; omega
        have hBw := H5.out.base
        dsimp only at hcs hon hph
        have c0 := (hBw.cell (p := ⟨b, o, none⟩) hb).trans (hcs 0 _ rfl)
        have c1 := (hBw.cell (p := ⟨b, o + 1, none⟩) hb).trans (hcs 1 _ rfl)
        have c2 := (hBw.cell (p := ⟨b, o + 2, none⟩) hb).trans (hcs 2 _ rfl)
        have c3 := (hBw.cell (p := ⟨b, o + 3, none⟩) hb).trans (hcs 3 _ rfl)
        have c4 := (hBw.cell (p := ⟨b, o + 4, none⟩) hb).trans (hcs 4 _ rfl)
        have c5 := (hBw.cell (p := ⟨b, o + 5, none⟩) hb).trans (hcs 5 _ rfl)
        have c6 := (hBw.cell (p := ⟨b, o + 6, none⟩) hb).trans (hcs 6 _ rfl)
        have c7 := (hBw.cell (p := ⟨b, o + 7, none⟩) hb).trans (hcs 7 _ rfl)
        have c8 := (hBw.cell (p := ⟨b, o + 8, none⟩) hb).trans (hcs 8 _ rfl)
        have c9 := (hBw.cell (p := ⟨b, o + 9, none⟩) hb).trans (hcs 9 _ rfl)
        have had' : ad.add (j * 10) = ⟨b, o, none⟩ := had
        obtain ⟨hon0, hon1⟩ := hon
        have HON := Lib.hid (And.intro hon0 (And.intro hon1 (And.intro hn0 hn1)))
        have HPK := Lib.hid (And.intro hks hph)
        clear hK hcs had hx hxb hxg hBw hks hph hj hev hn1
        go_upto_region 8 with fail
        have S6 := H5.out.new' #[.int .i64 ok, .string r.f0, .int .u64 r.f1.f0, .int .u32 r.f1.f1, .int .u8 r.f1.f2, .int .u8 r.f2, .int .u32 r.f3, .int .u64 r.f4, .string r.f5, .int .u8 on] 39 wr.heap.size rfl
        obtain ⟨z9, hz9⟩ : ∃ z9, wr.heap.size = z9 := ⟨_, rfl⟩
        rw [hz9] at S6 ⊢
        clear hz9
        generalize World.alloc wr _ = w6 at *
        have S6' : St (fun _ => False) W w6 [blk z (cfA cf) 23, sO g S c s, blk z9 #[.int .i64 ok, .string r.f0, .int .u64 r.f1.f0, .int .u32 r.f1.f1, .int .u8 r.f1.f2, .int .u8 r.f2, .int .u32 r.f3, .int .u64 r.f4, .string r.f5, .int .u8 on] 39] := S6
        have d1 : w6.cell? ⟨z9, 1, none⟩ = some (.string r.f0) := blk_cell (S6'.get 2 rfl) 1
        have d2 : w6.cell? ⟨z9, 2, none⟩ = some (.int .u64 r.f1.f0) := blk_cell (S6'.get 2 rfl) 2
        have d3 : w6.cell? ⟨z9, 3, none⟩ = some (.int .u32 r.f1.f1) := blk_cell (S6'.get 2 rfl) 3
        have d4 : w6.cell? ⟨z9, 4, none⟩ = some (.int .u8 r.f1.f2) := blk_cell (S6'.get 2 rfl) 4
        have d5 : w6.cell? ⟨z9, 5, none⟩ = some (.int .u8 r.f2) := blk_cell (S6'.get 2 rfl) 5
        have d6 : w6.cell? ⟨z9, 6, none⟩ = some (.int .u32 r.f3) := blk_cell (S6'.get 2 rfl) 6
        have d7 : w6.cell? ⟨z9, 7, none⟩ = some (.int .u64 r.f4) := blk_cell (S6'.get 2 rfl) 7
        have d8 : w6.cell? ⟨z9, 8, none⟩ = some (.string r.f5) := blk_cell (S6'.get 2 rfl) 8
        have d9 : w6.cell? ⟨z9, 9, none⟩ = some (.int .u8 on) := blk_cell (S6'.get 2 rfl) 9
        have HPU := Lib.hid (put_o S6' (i := 1) rfl r (now + on) HPK.out.1 HPK.out.2 (by have := HJ.out; have := HI.out.2.1; omega))
        have hpe := put_ev c s r (now + on)
        obtain ⟨res, hres⟩ : ∃ res, putF c s r (now + on) = res := ⟨_, rfl⟩
        rw [hres] at HPU hpe
        have hev1 : res.2.2.ev + res.2.2.L.length ≤ j + 1 := by have := HJ.out.2.2; omega
        have HEV := Lib.hid hev1
        clear S6 S6' c0 c1 c2 c3 c4 c5 c6 c7 c8 c9 had' H5 hres hpe hev1
        go_upto_region 10 with (go_at_call 11; refine HPU.out.mono ?_; rintro e w7 ⟨rfl, S7, h7⟩)
        obtain ⟨p1, p2, s1⟩ := res
        have S7' : St (fun _ => False) W w7 [blk z (cfA cf) 23, sO g S7 c s1] := St.drop h7 2
        have H7 := Lib.hid S7'
        have HS7 := Lib.hid (so_si (S7'.get 1 rfl))
        dsimp only at HEV
        clear d1 d2 d3 d4 d5 d6 d7 d8 d9 HPU h7 S7' hon0 hon1 hn0 hnow
        go_wp2_with fail
        go_loopg [10, 11, 53] 65 (fun kq v10 v11 v53 wx => ∃ (k : Nat) (S : Nat → Prop), v10 = .int .i64 (szL (s1.L.filter (belowR k)) : Nat) ∧ v11 = .int .i64 ((s1.L.filter (belowR k)).length : Nat) ∧ v53 = .int .i64 k ∧ k ≤ 64 ∧ 64 - k < kq ∧ St (fun _ => False) W wx [blk z (cfA cf) 23, sO g S c s1])
        case atStart => exact ⟨0, S7, by rw [below_none]; rfl, by rw [below_none]; rfl, rfl, by omega, by omega, H7.out⟩
        case round =>
          clear H7
          obtain ⟨k, S8, rfl, rfl, rfl, hk, hkm, S9⟩ := hrel
          have H9 := Lib.hid S9
          have HK := Lib.hid (And.intro hk hkm)
          by_cases hkl : k < 64
          · have hkl' : (k : Int) < 64 := by omega
            have HRA := Lib.hid (range_o S9 (i := 1) rfl (k : Int))
            have hsz : szL (s1.L.filter (belowR k)) + szL (s1.L.filter (inR (k : Int))) ≤ 1048576 ∧ (s1.L.filter (belowR k)).length + (s1.L.filter (inR (k : Int))).length ≤ 1024 := by
              obtain ⟨d, hI⟩ := HS7.out
              have h1 := below_succ s1.L k
              have h2 := szL_filter s1.L (belowR (k + 1))
              have h3 := List.length_filter_le (belowR (k + 1)) s1.L
              have h4 := hI.size
              have h5 := hI.b2
              have h6 := hI.llen
              have h7 := hI.lens
              have h8 := hI.m2
              omega
            have HBS := Lib.hid (below_succ s1.L k)
            have HSZ := Lib.hid hsz
            obtain ⟨a, ha⟩ : ∃ a, szL (s1.L.filter (belowR k)) = a := ⟨_, rfl⟩
            obtain ⟨bq, hbq⟩ : ∃ bq, (s1.L.filter (belowR k)).length = bq := ⟨_, rfl⟩
            rw [ha, hbq] at HBS HSZ
            rw [ha, hbq]
            clear S9 hk hkm hkl hsz ha hbq
            go_wp2_with (go_at_call 16; refine HRA.out.mono ?_; rintro e w10 ⟨v, ys, S10, rfl, hpy, hso, h10⟩; obtain ⟨A2, c2, hv⟩ := Kd.R_slice (h10.get 2 rfl).1; subst hv; have H10 := Lib.hid h10; have HPY := Lib.hid hpy; clear h10 hpy hso HRA H9)
            obtain ⟨n, hn⟩ : ∃ n, ys.length = n := ⟨_, rfl⟩
            have H10' : Hid (St (fun _ => False) W w10 [blk z (cfA cf) 23, sO g S10 c s1, slc k37 37 (.slice A2 n c2) ys]) := Lib.hid (by rw [← hn]; exact H10.out)
            rw [hn]
            have HNN := Lib.hid hn
            have hsy : szL ys = szL (s1.L.filter (inR (k : Int))) := szL_perm HPY.out
            have hly : n = (s1.L.filter (inR (k : Int))).length := by rw [← hn]; exact HPY.out.length_eq
            have HSY := Lib.hid (And.intro hsy hly)
            have hn2 : (n : Int) ≤ 1024 := by have := HSZ.out.2; omega
            clear hn hsy hly H10
            go_loopg [10, 11, 60] (n + 1) (fun kq v10 v11 v60 wx => ∃ q : Nat, v10 = .int .i64 (a + szL (ys.take q) : Nat) ∧ v11 = .int .i64 (bq + q : Nat) ∧ v60 = .int .i64 q ∧ q ≤ n ∧ n - q < kq ∧ St (fun _ => False) W wx [blk z (cfA cf) 23, sO g S10 c s1, slc k37 37 (.slice A2 n c2) ys])
            case atStart => exact ⟨0, rfl, rfl, rfl, by omega, by omega, H10'.out⟩
            case round =>
              clear H10'
              obtain ⟨q, rfl, rfl, rfl, hq, hqm, S11⟩ := hrel
              by_cases hql : q < n
              · have hql' : (q : Int) < (n : Int) := by omega
                obtain ⟨y, hy⟩ : ∃ y, ys[q]? = some y := ⟨_, List.getElem?_eq_getElem (by rw [HNN.out]; exact hql)⟩
                obtain ⟨yb, cB, hv, _, hcB⟩ := slc_form (S11.get 2 rfl) (by rw [HNN.out]; omega)
                injection hv with hv1 hvl hv2
                subst hv1; subst hv2
                have e : ∀ j, j < 8 → wr.cell? ⟨yb, q * 8 + j, none⟩ = (eRc y)[j]? := fun j hj => (S11.elem flRc 2 rfl (i := q) (c := j) hy hj).1
                have p0 : wr.cell? ⟨yb, q * 8, none⟩ = some (.string y.f0) := e 0 (by decide)
                have p1 : wr.cell? ⟨yb, q * 8 + 1, none⟩ = some (.int .u64 y.f1.f0) := e 1 (by decide)
                have p2 : wr.cell? ⟨yb, q * 8 + 2, none⟩ = some (.int .u32 y.f1.f1) := e 2 (by decide)
                have p3 : wr.cell? ⟨yb, q * 8 + 3, none⟩ = some (.int .u8 y.f1.f2) := e 3 (by decide)
                have p4 : wr.cell? ⟨yb, q * 8 + 4, none⟩ = some (.int .u8 y.f2) := e 4 (by decide)
                have p5 : wr.cell? ⟨yb, q * 8 + 5, none⟩ = some (.int .u32 y.f3) := e 5 (by decide)
                have p6 : wr.cell? ⟨yb, q * 8 + 6, none⟩ = some (.int .u64 y.f4) := e 6 (by decide)
                have p7 : wr.cell? ⟨yb, q * 8 + 7, none⟩ = some (.string y.f5) := e 7 (by decide)
                have hst := szL_take hy
                have hs1 := szL_le_take ys (q + 1)
                have hs2 := HSY.out.1
                have hs3 := HSZ.out.1
                have hwy : wgt y = y.f0.size + y.f5.size := rfl
                have HST := Lib.hid hst
                obtain ⟨t0, ht0⟩ : ∃ t0, szL (ys.take q) = t0 := ⟨_, rfl⟩
                rw [ht0] at hst HST
                rw [ht0]
                have hb1 : ((a + t0 : Nat) : Int) ≤ 1048576 := by omega
                have hb2 : (y.f0.size : Int) ≤ 1048576 := by omega
                have hb3 : (y.f5.size : Int) ≤ 1048576 := by omega
                have hb4 : ((bq + q : Nat) : Int) ≤ 1024 := by have := HSZ.out.2; have := HSY.out.2; omega
                have H11 := Lib.hid S11
                have HQ := Lib.hid (And.intro hq (And.intro hqm (And.intro hql hwy)))
                clear S11 hy e hst hs1 hs2 hs3 hwy hq hqm hql hvl hcB ht0
                go_upto_region 17 with fail
                have S12 := H11.out.new' #[.string y.f0, .int .u64 y.f1.f0, .int .u32 y.f1.f1, .int .u8 y.f1.f2, .int .u8 y.f2, .int .u32 y.f3, .int .u64 y.f4, .string y.f5] 37 wr.heap.size rfl
                obtain ⟨z14, hz14⟩ : ∃ z14, wr.heap.size = z14 := ⟨_, rfl⟩
                rw [hz14] at S12 ⊢
                clear hz14
                generalize World.alloc wr _ = w12 at *
                have q0 : w12.cell? ⟨z14, 0, none⟩ = some (.string y.f0) := blk_cell (S12.get 3 rfl) 0
                have q7 : w12.cell? ⟨z14, 7, none⟩ = some (.string y.f5) := blk_cell (S12.get 3 rfl) 7
                have H12 : Hid (St (fun _ => False) W w12 [blk z (cfA cf) 23, sO g S10 c s1, slc k37 37 (.slice (some ⟨yb, 0, none⟩) n c2) ys]) := Lib.hid (S12.drop 3)
                clear S12 H11 p0 p1 p2 p3 p4 p5 p6 p7
                go_wp2_with fail
                go_roundg (n - q)
                case measure => have := HQ.out; omega
                case rel =>
                  have h1 := HQ.out
                  have h2 := HST.out
                  exact ⟨q + 1, congrArg (Value.int .i64) (by omega), congrArg (Value.int .i64) (by omega), congrArg (Value.int .i64) (by omega), by omega, by omega, H12.out⟩
              · have hqe : q = n := by omega
                subst hqe
                have hql' : ¬ ((q : Int) < (q : Int)) := by omega
                have hta : szL (ys.take q) = szL ys := by rw [List.take_of_length_le (by rw [HNN.out]; exact Nat.le_refl _)]
                rw [hta]
                have H11 : Hid (St (fun _ => False) W wr [blk z (cfA cf) 23, sO g S10 c s1]) := Lib.hid (S11.drop 2)
                clear S11 hq hqm hql hta
                go_wp2_with fail
                go_roundg (64 - k)
                case measure => have := HK.out; omega
                case rel =>
                  have h1 := HK.out
                  have h2 := HBS.out
                  have h3 := HSY.out
                  exact ⟨k + 1, S10, congrArg (Value.int .i64) (by rw [h2.1, h3.1]; omega), congrArg (Value.int .i64) (by rw [h2.2, ← h3.2]; omega), congrArg (Value.int .i64) (by omega), by omega, by omega, H11.out⟩
          · have hke : k = 64 := by omega
            subst hke
            rw [below_all]
            have z0 : wr.cell? ⟨z, 0, none⟩ = some (.int .i64 (c.most : Int)) := by rw [← HCF.out.1]; exact blk_cell (S9.get 0 rfl) 0
            have z1 : wr.cell? ⟨z, 1, none⟩ = some (.int .i64 (c.bytes : Int)) := by rw [← HCF.out.2.1]; exact blk_cell (S9.get 0 rfl) 1
            have HLn := Lib.hid (fun n => slen_c ((S9.drewN n).get 1 rfl))
            have HSz := Lib.hid (fun n => ssize_c ((S9.drewN n).get 1 rfl))
            have hle1 : ((s1.L.length : Nat) : Int) ≤ (c.most : Int) := by obtain ⟨d, hI⟩ := HS7.out; have h1 := hI.llen; have h2 := hI.lens; omega
            have hle2 : ((szL s1.L : Nat) : Int) ≤ (c.bytes : Int) := by obtain ⟨d, hI⟩ := HS7.out; have h1 := hI.size; omega
            have hn1 : ¬ (c.most < s1.L.length) := by omega
            have hn2 : ¬ (c.bytes < szL s1.L) := by omega
            generalize hln : s1.L.length = ln at *
            have HLN := Lib.hid hln
            clear hln
            generalize szL s1.L = sz at *
            have hkl' : ¬ ((64 : Nat) : Int) < 64 := by omega
            clear S9 hk hkm hkl
            go_upto_region 21 with fail
            go_quiet (first | (go_at_call 17; refine Calls.quiet_of_same (HLn.out _)) | (go_at_call 18; refine Calls.quiet_of_same (HSz.out _)))
            have H10 := Lib.hid (H9.out.drewN nq)
            generalize wr.drewN nq = w10 at *
            clear z0 z1 HLn HSz H9 hle1 hle2
            go_wp2_with fail
            go_roundg (i - j)
            case measure => have := HJ.out; omega
            case rel =>
              have h1 := HJ.out
              have h2 := HON.out
              exact ⟨j + 1, now + on, s1, S8, rfl, congrArg (Value.int .i64) (by omega), by omega, by omega, by omega, by omega, by have h3 := HEV.out; have h4 := HLN.out; omega, H10.out⟩
      · have hje : j = i := by have := HJ.out; omega
        subst hje
        have hjl' : ¬ ((j : Int) < (j : Int)) := by omega
        go_wp2_with fail
        go_ret
        exact ⟨rfl, H5.out.base⟩
  · have HN := Lib.hid (snew_no cf.f0 cf.f1 cf.f2 w1 hok)
    clear hok
    go_wp2_with (first | (go_at_call 8; refine HN.out.mono ?_; rintro e w2 ⟨rfl, rfl⟩) | (go_at_call 9; refine (HFix.out _).mono ?_; rintro e w3 ⟨rfl, b3⟩; have HB3 := Lib.hid b3; clear b3))
    go_ret
    exact ⟨rfl, H1.out.base.trans (HB3.out.mono H1.out.base.size)⟩
theorem bounded_row (a0 : S23) (cs : List Value) (ops : List Oq) (A : Option Addr) (cp : Nat) (W : World) (hK : k23.K W a0 cs) (hC : k39.C W A ops.length ops) (hc : ops.length ≤ cp) (hg : ∀ o ∈ ops, g39 o) :
    Calls Try.prog 4 #[.agg cs.toArray, .slice A ops.length cp] W fun e w' => e = .returned (.bool true) ∧ Below W.heap.size W w' := by
  rw [k23_open hK]
  exact bounded_c a0 ops A cp W hC hc hg
end Go.Proofs.Ytecgnfklfgjgaaa
