import Derived.Test.YtkfofcgonkkdaaaTM
import Derived.Test.YtkfofcgonkkdaaaTP
import Derived.Test.YtkfofcgonkkdaaaTV
namespace Go.Proofs.Ytkfofcgonkkdaaa
open Go.RowKit Go.Tat Go.Proofs.YtkfofcgonkkdaaaW.PrintWords PTalkPlays
theorem wrap64_succ {i m : Nat} (h : i < m) (hm : m < 4611686018427387904) : wrap64 ((i : Int) + 1) = ((i + 1 : Nat) : Int) := by unfold wrap64; omega
theorem rd33 (l : List S33) (i : Nat) (h : i < l.length) : rd_T33 l (i : Int) = l[i] := by
  unfold rd_T33
  simp [List.getD, List.getElem?_eq_getElem h]
theorem rd57 (l : List S57) (i : Nat) (h : i < l.length) : rd_T57 l (i : Int) = l[i] := by
  unfold rd_T57
  simp [List.getD, List.getElem?_eq_getElem h]
theorem sameN_l (l : List S33) (hl : l.length ≤ 1000000) : ∀ d i k, i + d = l.length → d < k → tattlerref17_SameNews.l0 k l l (l.length : Int) (i : Int) = some true
  | 0, i, k, h, hk => by
    obtain ⟨k, rfl⟩ : ∃ m, k = m + 1 := ⟨k - 1, by omega⟩
    simp only [tattlerref17_SameNews.l0]
    rw [if_neg (by omega)]
  | d + 1, i, k, h, hk => by
    obtain ⟨k, rfl⟩ : ∃ m, k = m + 1 := ⟨k - 1, by omega⟩
    simp only [tattlerref17_SameNews.l0]
    rw [if_pos (by omega), if_pos (by omega), if_pos (by omega), if_pos (by omega), if_neg (by simp), wrap64_succ (m := l.length) (by omega) (by omega)]
    exact sameN_l l hl d (i + 1) k (by omega) (by omega)
theorem same_is (l : List S33) (hl : l.length ≤ 1000000) : tattlerref17_SameNews.f (l.length + 1) l l = some true := by
  unfold tattlerref17_SameNews.f
  rw [if_pos rfl]
  exact sameN_l l hl l.length 0 _ (by omega) (by omega)
theorem addR_l (m : List S57) (x : S33) (hl : m.length ≤ 1000000) : ∀ d i k O, i + d = m.length → d < k → O.length ≤ i + 1 → tattlerref18_Add.l0 k m O (m.length : Int) (i : Int) x.f0 x.f1.f0 x.f1.f1 = some (O ++ (m.drop i).filter fun y => !(y.f0.f0 == x.f0))
  | 0, i, k, O, h, hk, hO => by
    obtain ⟨k, rfl⟩ : ∃ m, k = m + 1 := ⟨k - 1, by omega⟩
    simp only [tattlerref18_Add.l0]
    rw [if_neg (by omega), List.drop_eq_nil_of_le (by omega)]
    simp
  | d + 1, i, k, O, h, hk, hO => by
    obtain ⟨k, rfl⟩ : ∃ m, k = m + 1 := ⟨k - 1, by omega⟩
    have hil : i < m.length := by omega
    simp only [tattlerref18_Add.l0]
    rw [if_pos (by omega), if_pos (by omega), if_pos (by omega), rd57 m i hil, wrap64_succ (m := m.length) (by omega) (by omega), List.drop_eq_getElem_cons hil, List.filter_cons]
    by_cases e : m[i].f0.f0 = x.f0
    · rw [if_pos e, if_neg (by simp [e])]
      exact addR_l m x hl d (i + 1) k O (by omega) (by omega) (by omega)
    · rw [if_neg e, if_pos (by omega), if_pos (by simp [e])]
      show tattlerref18_Add.l0 k m (O ++ [m[i]]) (m.length : Int) ((i + 1 : Nat) : Int) x.f0 x.f1.f0 x.f1.f1 = _
      rw [addR_l m x hl d (i + 1) k (O ++ [m[i]]) (by omega) (by omega) (by rw [List.length_append, List.length_singleton]; omega), List.append_assoc]
      rfl
theorem addR_is (m : List S57) (x : S33) (hl : m.length ≤ 1000000) : tattlerref18_Add.f (m.length + 1) m x.f0 x.f1.f0 x.f1.f1 = some (addR m x) := by
  unfold tattlerref18_Add.f
  have := addR_l m x hl m.length 0 (m.length + 1) [⟨⟨x.f0, ⟨x.f1.f0, x.f1.f1⟩⟩, 0⟩] (by omega) (by omega) (by simp)
  rw [List.drop_zero] at this
  exact this
theorem Tk.N (p : Tk) (h : 1 ≤ p.most) : (takeN p : Int) = min p.most (p.pieces.length : Int) := by unfold takeN; omega
theorem u8_wf' {x : Int} (h : (Lit.int .u8 x).wf = true) : 0 ≤ x := by
  have b : IntKind.u8.min ≤ x ∧ x ≤ IntKind.u8.max := by simpa [Lit.wf] using h
  have e0 : IntKind.u8.min = 0 := rfl
  omega
theorem bad_c (ti mo : Int) (hb : ¬(1 ≤ ti ∧ ti ≤ 64 ∧ 1 ≤ mo ∧ mo ≤ 64)) (ops : List S35) (A : Option Addr) (c : Nat) (W : World) :
    Calls Try.prog 3 #[.int .i64 ti, .int .i64 mo, .slice A ops.length c] W fun e w' => e = .returned (.bool true) ∧ Below W.heap.size W w' := by
  have HB := Lib.hid hb
  by_cases h1 : ti < 1
  · clear hb
    go_enter Try.func3, Try.ntmps3
    go_wp2_with fail
    refine new_bad ti mo HB.out ?_
    intro w1 b1
    have B1 := Lib.hid ((St.nil (fun _ => False) W).below b1)
    clear b1
    go_wp2_with fail
    refine (fixed_c w1).mono ?_
    rintro e w2 ⟨rfl, b2⟩
    have B2 := Lib.hid (B1.out.below b2)
    clear b2
    go_wp2_with fail
    go_ret
    exact ⟨by simp, B2.out.base⟩
  · by_cases h2 : 64 < ti
    · clear hb
      go_enter Try.func3, Try.ntmps3
      go_wp2_with fail
      refine new_bad ti mo HB.out ?_
      intro w1 b1
      have B1 := Lib.hid ((St.nil (fun _ => False) W).below b1)
      clear b1
      go_wp2_with fail
      refine (fixed_c w1).mono ?_
      rintro e w2 ⟨rfl, b2⟩
      have B2 := Lib.hid (B1.out.below b2)
      clear b2
      go_wp2_with fail
      go_ret
      exact ⟨by simp, B2.out.base⟩
    · by_cases h3 : mo < 1
      · clear hb
        go_enter Try.func3, Try.ntmps3
        go_wp2_with fail
        refine new_bad ti mo HB.out ?_
        intro w1 b1
        have B1 := Lib.hid ((St.nil (fun _ => False) W).below b1)
        clear b1
        go_wp2_with fail
        refine (fixed_c w1).mono ?_
        rintro e w2 ⟨rfl, b2⟩
        have B2 := Lib.hid (B1.out.below b2)
        clear b2
        go_wp2_with fail
        go_ret
        exact ⟨by simp, B2.out.base⟩
      · have h4 : 64 < mo := by omega
        clear hb
        go_enter Try.func3, Try.ntmps3
        go_wp2_with fail
        refine new_bad ti mo HB.out ?_
        intro w1 b1
        have B1 := Lib.hid ((St.nil (fun _ => False) W).below b1)
        clear b1
        go_wp2_with fail
        refine (fixed_c w1).mono ?_
        rintro e w2 ⟨rfl, b2⟩
        have B2 := Lib.hid (B1.out.below b2)
        clear b2
        go_wp2_with fail
        go_ret
        exact ⟨by simp, B2.out.base⟩
set_option maxRecDepth 100000 in
set_option maxHeartbeats 8000000 in
theorem good_c (ti mo : Int) (ht : 1 ≤ ti ∧ ti ≤ 64) (hm : 1 ≤ mo ∧ mo ≤ 64) (ops : List S35) (A : Option Addr) (c : Nat) (W : World) (hC : k35.C W A ops.length ops) (hg : ∀ x ∈ ops, g35 x) :
    Calls Try.prog 3 #[.int .i64 ti, .int .i64 mo, .slice A ops.length c] W fun e w' => e = .returned (.bool true) ∧ Below W.heap.size W w' := by
  have hmx := Kd.C_max hC
  have HC := Lib.hid (And.intro hC hg)
  have HTM := Lib.hid (And.intro ht hm)
  obtain ⟨a1, a2⟩ := ht
  obtain ⟨a3, a4⟩ := hm
  clear hC hg
  go_enter Try.func3, Try.ntmps3
  go_wp2_with fail
  refine (new_st (St.nil (fun _ => False) W) ti mo HTM.out.1 HTM.out.2).mono ?_
  rintro e w1 ⟨g, S, rfl, S1⟩
  have HS := Lib.hid S1
  clear S1
  go_wp2_with fail
  refine (fixed_c w1).mono ?_
  rintro e w2 ⟨rfl, b2⟩
  have S2 : St (fun _ => False) W w2 [tO g S ⟨[], ti, mo, 0⟩] := HS.out.below b2
  have H3 := Lib.hid (S2.nils k57 57)
  clear S2 b2 HS
  go_upto_block 0 with fail
  clear a1 a2 a3 a4
  go_cut [] (fun wx => Below W.heap.size W wx)
  case first =>
    go_wp2_with fail
    go_loopg [10, 55] (ops.length + 1) (fun q v10 v55 wx => ∃ (j : Nat) (p : Tk) (m : List S57) (zs : List S60) (S : Nat → Prop) (A10 : Option Addr) (c10 : Nat), v10 = .slice A10 m.length c10 ∧ v55 = .int .i64 j ∧ ops.length - j < q ∧ j ≤ ops.length ∧ j ≤ 201 ∧ (0 ≤ p.came ∧ p.came ≤ j) ∧ p.times = ti ∧ p.most = mo ∧ TkI p ∧ Doc m p zs ∧ St (fun _ => False) W wx [tO g S p, slc k57 57 (.slice A10 m.length c10) m])
    case atStart => exact ⟨0, _, [], [], S, none, 0, rfl, rfl, by omega, by omega, by omega, ⟨Int.le_refl _, Int.le_refl _⟩, rfl, rfl, start_I _ _, Doc.nil _ _, H3.out⟩
    case round =>
      clear H3
      obtain ⟨j, p, m, zs, S, A10, c10, rfl, rfl, hjm, hj, hj2, hcm, hpt, hpm, I, D, S4⟩ := hrel
      have H4 := Lib.hid S4
      have HI := Lib.hid (And.intro I (And.intro D (And.intro hpt (And.intro hpm (And.intro hcm (And.intro hjm (And.intro hj hj2)))))))
      clear I S4 hpt hpm hcm hjm hj D
      by_cases hjl : j < ops.length
      · have hjl' : (j : Int) < (ops.length : Int) := by omega
        have hj0 : (0 : Int) ≤ (j : Int) := by omega
        obtain ⟨x, hx⟩ : ∃ x, ops[j]? = some x := ⟨_, List.getElem?_eq_getElem hjl⟩
        have hgx := u8_wf' (HC.out.2 x (List.mem_of_getElem? hx)).2.1
        obtain ⟨ad, b, o, cs, rfl, had, hb, hK, hcs⟩ := C_at HC.out.1 hx (by decide)
        obtain ⟨xt, xn, xs, xi⟩ := x
        obtain rfl := k35_open hK
        dsimp only at hcs hgx
        have hBw := H4.out.base
        have c0 := (hBw.cell (p := ⟨b, o, none⟩) hb).trans (hcs 0 _ rfl)
        have c1 := (hBw.cell (p := ⟨b, o + 1, none⟩) hb).trans (hcs 1 _ rfl)
        have c2 := (hBw.cell (p := ⟨b, o + 2, none⟩) hb).trans (hcs 2 _ rfl)
        have c3 := (hBw.cell (p := ⟨b, o + 3, none⟩) hb).trans (hcs 3 _ rfl)
        have had' : ad.add (j * 4) = ⟨b, o, none⟩ := had
        have HG := Lib.hid hgx
        clear hK hcs had hx hBw hgx
        go_upto_region 11 with fail
        have S5 := H4.out.new' #[.bool xt, .int .u8 xn, .int .u8 xs, .int .u32 xi] 35 wr.heap.size rfl
        obtain ⟨z, hz⟩ : ∃ z, wr.heap.size = z := ⟨_, rfl⟩
        rw [hz] at S5 ⊢
        clear hz
        generalize World.alloc wr _ = w4 at *
        have d0 : w4.cell? ⟨z, 0, none⟩ = some (.bool xt) := S5.cell 2 rfl 0
        have d1 : w4.cell? ⟨z, 1, none⟩ = some (.int .u8 xn) := S5.cell 2 rfl 1
        have d2 : w4.cell? ⟨z, 2, none⟩ = some (.int .u8 xs) := S5.cell 2 rfl 2
        have d3 : w4.cell? ⟨z, 3, none⟩ = some (.int .u32 xi) := S5.cell 2 rfl 3
        have H5 := Lib.hid S5
        clear S5 H4 c0 c1 c2 c3 had'
        by_cases hbr : (200 : Int) < (j : Int)
        · go_wp2_with fail
          go_meet
          exact H5.out.base
        · have hj200 : j ≤ 200 := by omega
          have hzl := HI.out.2.1.small
          have hml : m.length ≤ 64 := by rw [HI.out.2.1.is, List.length_map]; exact hzl
          have hpl : p.pieces.length ≤ 64 := by rw [← HI.out.2.1.len]; exact hml
          have HL := Lib.hid (And.intro hzl (And.intro hml hpl))
          clear hzl hml hpl
          cases xt with
          | true =>
            go_wp2_with fail
            have hN : (takeN p : Int) = min mo (m.length : Int) := by
              rw [Tk.N p (by have := HI.out.2.2.2.1; have := HTM.out; omega), HI.out.2.2.2.1, HI.out.2.1.len]
            have r := Kd.R_reads' (H5.out.get 1 rfl).1
            have hd := HI.out.1.dist
            refine (takeR_c m zs (isort zs) HI.out.2.1.is (isort_perm zs) HI.out.2.1.fall (isort_sorted zs) (by have := HL.out; omega) (fun x hx => ?_) ti mo HTM.out.2 (takeN p) hN A10 c10 w4 r.2.2).mono ?_
            · have := HI.out.1.told x (HI.out.2.1.perm.mem_iff.1 hx)
              have := HI.out.2.2.1
              have := HTM.out.1
              omega
            clear hN r hd
            rintro e w5 ⟨v1, v2, rfl, S6⟩
            obtain ⟨zs', D', htd⟩ := HI.out.2.1.take HI.out.1
            rw [htd] at S6
            have e2 : (restL zs (isort zs) (takeN p)).filter (fun y => decide (y.f1 < ti)) = takeR zs p := by unfold takeR; rw [HI.out.2.2.1]
            rw [e2] at S6
            obtain ⟨t, ht⟩ : ∃ t, takeL p = t := ⟨_, rfl⟩
            rw [ht] at S6
            obtain ⟨m', hm'⟩ : ∃ m', takeR zs p = m' := ⟨_, rfl⟩
            rw [hm'] at S6 D'
            have S7 := (H5.out.adds S6)
            have S8 : St (fun _ => False) W w5 [tO g S p, slc k33 33 v1 t, slc k57 57 v2 m'] := (S7.drop 1).drop 1
            obtain ⟨Av1, cv1, hv1⟩ := Kd.R_slice (S8.get 1 rfl).1
            obtain ⟨Av2, cv2, hv2⟩ := Kd.R_slice (S8.get 2 rfl).1
            subst hv1
            subst hv2
            have H8 := Lib.hid S8
            have HD := Lib.hid (And.intro D' ht)
            clear S6 S7 S8 D' htd e2 ht hm' H5 d0 d1 d2 d3
            go_wp2_with fail
            refine (take_d H8.out 0 rfl HI.out.1 (by have := HL.out; omega) (by rw [HI.out.2.2.2.1]; exact HTM.out.2) (by rw [HI.out.2.2.1]; exact HTM.out.1.2)).mono ?_
            rintro e w6 ⟨v3, S', rfl, S9⟩
            rw [HD.out.2] at S9
            obtain ⟨Av3, cv3, hv3⟩ := Kd.R_slice (S9.get 3 rfl).1
            subst hv3
            obtain ⟨p', hp'⟩ : ∃ p', takeD p = p' := ⟨_, rfl⟩
            rw [hp'] at S9
            have H9 := Lib.hid (show St (fun _ => False) W w6 [tO g S' p', slc k33 33 (.slice Av1 t.length cv1) t, slc k57 57 (.slice Av2 m'.length cv2) m', slc k33 33 (.slice Av3 t.length cv3) t] from S9)
            have HP := Lib.hid hp'
            clear S9 H8 hp'
            have htl : t.length ≤ 1000000 := by
              rw [← HD.out.2]
              unfold takeL takeO
              rw [List.length_map, List.length_take, (isort_perm p.pieces).length_eq]
              have := HL.out; omega
            have HTL := Lib.hid htl
            clear htl
            go_wp2_with fail
            have r1 := Kd.R_reads' (H9.out.get 3 rfl).1
            have r2 := Kd.R_reads' (H9.out.get 1 rfl).1
            refine (tattlerref17_SameNews.calls (t.length + 1) Av3 cv3 t Av1 cv1 t true w6 r1.2.2 r1.2.1 r2.2.2 r2.2.1 (same_is t HTL.out)).mono ?_
            clear r1 r2
            rintro e w7 ⟨rfl, b7⟩
            have H10 := Lib.hid (show St (fun _ => False) W w7 [tO g S' p', slc k57 57 (.slice Av2 m'.length cv2) m'] from (H9.out.below b7.below).sub (by simp))
            clear b7 H9
            have hlm : p'.pieces.length = m'.length := by have := HD.out.1; rw [HP.out] at this; exact this.len.symm
            have hl64 : m'.length ≤ 64 := by have := HD.out.1; rw [this.is, List.length_map]; exact this.small
            have HLM := Lib.hid (And.intro hlm hl64)
            have hl64' : ¬ (64 : Int) < (m'.length : Int) := by omega
            clear hlm hl64
            go_wp2_with fail
            refine len_st H10.out 0 rfl ?_
            rw [HLM.out.1]
            intro w8 b8
            have H11 := Lib.hid (H10.out.below b8)
            clear b8 H10
            go_wp2_with fail
            refine len_st H11.out 0 rfl ?_
            rw [HLM.out.1]
            intro w9 b9
            have H12 := Lib.hid (H11.out.below b9)
            clear b9 H11
            go_wp2_with fail
            go_roundg (ops.length - j)
            case measure => have := HI.out.2.2.2.2; omega
            case rel =>
              obtain ⟨I, D, hpt, hpm, hcm, hjm, hj, _⟩ := HI.out
              have e := HP.out
              have hI := takeD_I I
              rw [e] at hI
              have hD := HD.out.1
              rw [e] at hD
              refine ⟨j + 1, p', m', zs', S', Av2, cv2, rfl, by go_num, by omega, by omega, by omega, ?_, ?_, ?_, hI, hD, H12.out⟩
              · rw [← e]; show 0 ≤ p.came ∧ p.came ≤ _; omega
              · rw [← e]; exact hpt
              · rw [← e]; exact hpm
          | false =>
            by_cases hx64 : xn < 64
            · go_wp2_with fail
              refine (add_st H5.out 0 rfl ⟨xn, ⟨xs, xi⟩⟩ hx64 HI.out.2.2.2.2.1.1 (by have := HI.out.2.2.2.2.1; omega) (by have := HL.out; omega)).mono ?_
              rintro e w5 ⟨rfl, S', S6⟩
              have hD := HI.out.2.1.add HI.out.1 ⟨xn, ⟨xs, xi⟩⟩ ⟨HG.out, hx64⟩
              have hI := addF_I HI.out.1 ⟨xn, ⟨xs, xi⟩⟩ (by rw [HI.out.2.2.1]; exact HTM.out.1.1)
              obtain ⟨p', hp'⟩ : ∃ p', addF p ⟨xn, ⟨xs, xi⟩⟩ = p' := ⟨_, rfl⟩
              rw [hp'] at S6 hD hI
              have HD := Lib.hid (And.intro hD (And.intro hI hp'))
              have S6' : St (fun _ => False) W w5 [tO g S' p', slc k57 57 (.slice A10 m.length c10) m, blk z #[.bool false, .int .u8 xn, .int .u8 xs, .int .u32 xi] 35] := S6
              have d1' : w5.cell? ⟨z, 1, none⟩ = some (.int .u8 xn) := S6'.cell 2 rfl 1
              have d2' : w5.cell? ⟨z, 2, none⟩ = some (.int .u8 xs) := S6'.cell 2 rfl 2
              have d3' : w5.cell? ⟨z, 3, none⟩ = some (.int .u32 xi) := S6'.cell 2 rfl 3
              have H6 := Lib.hid S6'
              clear S6 S6' hD hI hp' H5 d0 d1 d2 d3
              go_wp2_with fail
              have r := Kd.R_reads' (H6.out.get 1 rfl).1
              refine (tattlerref18_Add.calls (m.length + 1) A10 c10 m xn xs xi (addR m ⟨xn, ⟨xs, xi⟩⟩) w5 r.2.2 r.2.1 (addR_is m ⟨xn, ⟨xs, xi⟩⟩ (by have := HL.out; omega))).mono ?_
              clear r
              rintro e w6 ⟨v, rfl, hR, hB⟩
              obtain ⟨m', hm'⟩ : ∃ m', addR m ⟨xn, ⟨xs, xi⟩⟩ = m' := ⟨_, rfl⟩
              rw [hm'] at hR
              have S7 := H6.out.adds (St.ofR hR rfl hB)
              have S8 : St (fun _ => False) W w6 [tO g S' p', slc k57 57 v m'] := (S7.drop 1).drop 1
              obtain ⟨Av2, cv2, hv2⟩ := Kd.R_slice (S8.get 1 rfl).1
              subst hv2
              have H8 := Lib.hid S8
              have HM := Lib.hid (show Doc m' p' _ from hm' ▸ HD.out.1)
              clear S7 S8 hm' hR hB H6 d1' d2' d3'
              have hlm : p'.pieces.length = m'.length := HM.out.len.symm
              have hl64 : m'.length ≤ 64 := by rw [HM.out.is, List.length_map]; exact HM.out.small
              have HLM := Lib.hid (And.intro hlm hl64)
              have hl64' : ¬ (64 : Int) < (m'.length : Int) := by omega
              clear hlm hl64
              go_wp2_with fail
              refine len_st H8.out 0 rfl ?_
              rw [HLM.out.1]
              intro w8 b8
              have H11 := Lib.hid (H8.out.below b8)
              clear b8 H8
              go_wp2_with fail
              refine len_st H11.out 0 rfl ?_
              rw [HLM.out.1]
              intro w9 b9
              have H12 := Lib.hid (H11.out.below b9)
              clear b9 H11
              go_wp2_with fail
              go_roundg (ops.length - j)
              case measure => have := HI.out.2.2.2.2; omega
              case rel =>
                obtain ⟨I, D, hpt, hpm, hcm, hjm, hj, _⟩ := HI.out
                have e := HD.out.2.2
                refine ⟨j + 1, p', m', _, S', Av2, cv2, rfl, by go_num, by omega, by omega, by omega, ?_, ?_, ?_, HD.out.2.1, HM.out, H12.out⟩
                · rw [← e]; show 0 ≤ p.came + 1 ∧ p.came + 1 ≤ _; omega
                · rw [← e]; exact hpt
                · rw [← e]; exact hpm
            · go_wp2_with fail
              refine add_high ⟨xn, ⟨xs, xi⟩⟩ (by show 64 ≤ xn; omega) ?_
              intro w5 b5
              have S6 := H5.out.below b5
              have d1' : w5.cell? ⟨z, 1, none⟩ = some (.int .u8 xn) := S6.cell 2 rfl 1
              have H6 := Lib.hid S6
              clear d0 d1 d2 d3 b5 S6 H5
              have hlm : p.pieces.length = m.length := HI.out.2.1.len.symm
              have hl64' : ¬ (64 : Int) < (m.length : Int) := by have := HL.out.2.1; omega
              have HLM := Lib.hid hlm
              clear hlm
              go_wp2_with fail
              refine len_st H6.out 0 rfl ?_
              rw [HLM.out]
              intro w8 b8
              have H11 := Lib.hid (H6.out.below b8)
              clear b8 H6 d1'
              go_wp2_with fail
              refine len_st H11.out 0 rfl ?_
              rw [HLM.out]
              intro w9 b9
              have H12 := Lib.hid ((H11.out.below b9).drop 2)
              clear b9 H11
              go_wp2_with fail
              go_roundg (ops.length - j)
              case measure => have := HI.out.2.2.2.2; omega
              case rel =>
                obtain ⟨I, D, hpt, hpm, hcm, hjm, hj, _⟩ := HI.out
                exact ⟨j + 1, p, m, zs, S, A10, c10, rfl, by go_num, by omega, by omega, by omega, by omega, hpt, hpm, I, D, H12.out⟩
      · have hjl' : ¬ (j : Int) < (ops.length : Int) := by omega
        go_wp2_with fail
        go_meet
        exact H4.out.base
  case rest =>
    have HB := Lib.hid hcut
    clear hcut
    go_wp2_with fail
    go_ret
    exact ⟨by simp, HB.out⟩
theorem plays_c (ti mo : Int) (ops : List S35) (A : Option Addr) (c : Nat) (W : World) (hC : k35.C W A ops.length ops) (hg : ∀ x ∈ ops, g35 x) :
    Calls Try.prog 3 #[.int .i64 ti, .int .i64 mo, .slice A ops.length c] W fun e w' => e = .returned (.bool true) ∧ Below W.heap.size W w' := by
  by_cases h : 1 ≤ ti ∧ ti ≤ 64 ∧ 1 ≤ mo ∧ mo ≤ 64
  · exact good_c ti mo ⟨h.1, h.2.1⟩ h.2.2 ops A c W hC hg
  · exact bad_c ti mo h ops A c W
end Go.Proofs.Ytkfofcgonkkdaaa
