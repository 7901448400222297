import Derived.Test.YtkfofcgonkkdaaaTL
import Derived.Test.YtkfofcgonkkdaaaMakeC
import Derived.Test.YtkfofcgonkkdaaaCell
namespace Go.Proofs.Ytkfofcgonkkdaaa
open Go.RowKit Go.Tat Go.Proofs.YtkfofcgonkkdaaaW.PrintWords PTalkPlays
def e57 (x : S57) : List Value := [.int .u8 x.f0.f0, .int .u8 x.f0.f1.f0, .int .u32 x.f0.f1.f1, .int .i64 x.f1]
theorem fl57 : Flat k57 e57 := ⟨rfl, ⟨fun h => k57_openM h, fun h => h ▸ k57_mkM _ _ _ _⟩, ⟨fun h => k57_open h, fun h => h ▸ k57_mk _ _⟩⟩
theorem flB : Flat Kd.bool (fun b => [Value.bool b]) := ⟨rfl, Iff.rfl, Iff.rfl⟩
theorem info4 : (Try.prog.info? 4).map (fun i => (i.zero, i.size, i.bytes)) = some (some (.bool false), 1, 1) := by kernel_rfl
theorem size57 : (Try.prog.info? 57).map (·.size) = some 4 := by kernel_rfl
def takeRPost (w : World) (told : List S33) (out : List S57) (e : Ending) (w' : World) : Prop := ∃ v1 v2, e = .returned (.tuple #[v1, v2]) ∧ St (fun _ => False) w w' [slc k33 33 v1 told, slc k57 57 v2 out]
def kv : Option Nat → Value
  | none => .int .i64 (-1)
  | some k => .int .i64 k
set_option maxRecDepth 100000 in
set_option maxHeartbeats 8000000 in
theorem takeR_c (l : List S57) (zs s : List S60) (hl : l = zs.map to57) (hs : s.Perm zs) (hf : Fall zs) (hso : Sorted60 s) (hlen : l.length ≤ 1000) (hb : ∀ x ∈ zs, 0 ≤ x.f1 ∧ x.f1 ≤ 1000) (times most : Int) (hm : 1 ≤ most ∧ most ≤ 64) (N : Nat) (hN : (N : Int) = min most (l.length : Int)) (A : Option Addr) (c : Nat) (w : World) (hC : k57.C w A l.length l) :
    Calls Try.prog 9 #[.slice A l.length c, .int .i64 times, .int .i64 most] w (takeRPost w (toldL s N) ((restL zs s N).filter fun y => decide (y.f1 < times))) := by
  have HC := Lib.hid (And.intro hC (And.intro hl (And.intro hs (And.intro hf (And.intro hso hb)))))
  have HN := Lib.hid (show N ≤ l.length ∧ (N : Int) ≤ most ∧ (N = l.length ∨ (N : Int) = most) by omega)
  clear hC hl hs hf hso hb hN
  go_enter Try.func9, Try.ntmps9
  go_upto_region 2 with fail
  obtain ⟨z, hz⟩ : ∃ z, w.heap.size = z := ⟨_, rfl⟩
  have H1 := Lib.hid ((St.nil (fun _ => False) w).empty fl33 33 z hz)
  rw [hz]
  clear hz
  generalize World.alloc w _ = w1 at *
  go_upto_region 3 with (at_make; refine St.wpMake fl57 rfl _ _ 28 57 rfl Try.underlying28 z57 _ 24 info57 rfl l.length _ _ rfl rfl ?hX ?hY ?b1 ?b2 H1.out ?_)
  case hX => rfl
  case hY => rfl
  case b1 => omega
  case b2 => unfold maxLen; omega
  intro T b2 w2 h2
  have H2 := h2
  clear h2 H1
  have HCC := Lib.hid (show k57.C w2 A l.length l from Kd.C_below HC.out.1 H2.out.2.2.base)
  go_upto_region 4 with (refine St.wpCopy fl57 rfl _ _ 28 28 57 rfl Try.underlying28 size57 (by decide) H2.out.2.2 1 rfl l A c rfl rfl HCC.out H2.out.2.1.symm ?_)
  intro w3 H3
  clear HCC H2
  go_upto_region 5 with (at_make; refine St.wpMake flB rfl _ _ 55 4 rfl Try.underlying55 false _ 1 info4 rfl l.length _ _ rfl rfl ?hX ?hY ?b1 ?b2 H3.out ?_)
  case hX => rfl
  case hY => rfl
  case b1 => omega
  case b2 => unfold maxLen; omega
  intro T' b3 w4 h4
  have S4 : St (fun _ => False) w w4 [slc k33 33 (.slice (some ⟨z, 0, none⟩) 0 0) (toldL s 0), slc k57 57 (.slice (some ⟨b2, 0, none⟩) l.length l.length) (restL zs s 0), slc Kd.bool 4 (.slice (some ⟨b3, 0, none⟩) l.length l.length) (wasL zs s 0)] := by
    have h := h4.out.2.2
    have e := h4.out.1
    rw [restL_zero, wasL_zero, ← HC.out.2.1, show zs.length = l.length by rw [HC.out.2.1, List.length_map], ← e]
    exact h
  have H4 := Lib.hid S4
  clear S4 h4 H3
  go_upto_block 0 with fail
  go_cut [8] (fun v8 wx => ∃ A8 c8 T, v8 = .slice A8 T.length c8 ∧ St (fun _ => False) w wx [slc k33 33 (.slice A8 T.length c8) T, slc k57 57 (.slice (some ⟨b2, 0, none⟩) l.length l.length) (restL zs s N)] ∧ T = toldL s N)
  case first =>
    go_wp2_with fail
    go_loopg [8, 11] (N + 2) (fun m v8 v11 wx => ∃ (n : Nat) (A8 : Option Addr) (c8 : Nat) (T : List S33), v8 = .slice A8 T.length c8 ∧ v11 = .int .i64 n ∧ n ≤ N ∧ N - n < m ∧ T = toldL s n ∧ St (fun _ => False) w wx [slc k33 33 (.slice A8 T.length c8) T, slc k57 57 (.slice (some ⟨b2, 0, none⟩) l.length l.length) (restL zs s n), slc Kd.bool 4 (.slice (some ⟨b3, 0, none⟩) l.length l.length) (wasL zs s n)])
    case atStart => exact ⟨0, _, _, [], rfl, rfl, by omega, by omega, rfl, H4.out⟩
    case round =>
      clear H4
      obtain ⟨n, A8, c8, T, rfl, rfl, hn, hnm, hT, S5⟩ := hrel
      have HT := Lib.hid hT
      have HI := Lib.hid (And.intro hn hnm)
      clear hT hn hnm
      have H5 := Lib.hid S5
      clear S5
      by_cases hnb : (n : Int) < most
      · go_wp2_with fail
        go_loopg [12, 33] (l.length + 1) (fun m v12 v33 wx => ∃ (q : Nat) (k : Option Nat), v12 = kv k ∧ v33 = .int .i64 q ∧ q ≤ l.length ∧ l.length - q < m ∧ Pk zs s n q k ∧ St (fun _ => False) w wx [slc k33 33 (.slice A8 T.length c8) T, slc k57 57 (.slice (some ⟨b2, 0, none⟩) l.length l.length) (restL zs s n), slc Kd.bool 4 (.slice (some ⟨b3, 0, none⟩) l.length l.length) (wasL zs s n)])
        case atStart => exact ⟨0, none, rfl, rfl, by omega, by omega, Pk.start _ _ _, H5.out⟩
        case round =>
          clear H5
          obtain ⟨q, k, rfl, rfl, hq, hqm, hpk, S6⟩ := hrel
          have HP := Lib.hid hpk
          have HQ := Lib.hid (And.intro hq hqm)
          clear hpk hq hqm
          by_cases hql : q < l.length
          · have hql' : (q : Int) < (l.length : Int) := by omega
            have hq0 : (0 : Int) ≤ (q : Int) := by omega
            have hqb : (q : Int) < 1000000 := by omega
            obtain ⟨x, hx⟩ : ∃ x, zs[q]? = some x := ⟨_, List.getElem?_eq_getElem (by have := HC.out.2.1; rw [this, List.length_map] at hql; exact hql)⟩
            have hlx : l[q]? = some (to57 x) := by rw [HC.out.2.1, List.getElem?_map, hx]; rfl
            have HX := Lib.hid hx
            obtain ⟨bb, hbb⟩ : ∃ bb, pick s n x = bb := ⟨_, rfl⟩
            have cw : wr.cell? ⟨b3, q, none⟩ = some (.bool bb) := by
              have h := (S6.elem flB 2 rfl (i := q) (c := 0) (x := bb) (by unfold wasL; rw [List.getElem?_map, hx, Option.map_some, hbb]) (by decide)).1
              rw [show q * Kd.bool.sz + 0 = q from Nat.mul_one q] at h
              exact h
            have HBB := Lib.hid hbb
            obtain ⟨ad, b, o, cs, hA, had, hbl, hK, hcs⟩ := C_at HC.out.1 hlx (by decide)
            have hK' := fl57.K.1 hK
            subst hK'
            have c3 : wr.cell? ⟨b, o + 3, none⟩ = some (.int .i64 x.f1) := (S6.base.cell (p := ⟨b, o + 3, none⟩) hbl).trans (hcs 3 _ rfl)
            have had' : ad.add (q * 4) = ⟨b, o, none⟩ := had
            have HA := Lib.hid hA
            have H6 := Lib.hid S6
            obtain ⟨xf, hxf⟩ : ∃ xf, x.f1 = xf := ⟨_, rfl⟩
            rw [hxf] at c3
            have HXF := Lib.hid hxf
            clear S6 hx hlx hbb hK hcs had hbl hA hxf
            cases bb with
            | true =>
              clear c3 had' HA
              go_upto_region 12 with fail
              go_quiet (fail)
              have S7 := H6.out.drewN nq
              generalize wr.drewN nq = w7 at *
              have H7 := Lib.hid S7
              clear S7 H6 cw
              go_wp2_with fail
              go_roundg (l.length - q)
              case measure => have := HQ.out; omega
              case rel =>
                have := HQ.out
                exact ⟨q + 1, k, rfl, by go_num, by omega, by omega, HP.out.was HX.out HBB.out, H7.out⟩
            | false =>
              cases k with
              | none =>
                clear c3 had' HA
                unfold kv
                go_upto_region 12 with fail
                go_quiet (fail)
                have S7 := H6.out.drewN nq
                generalize wr.drewN nq = w7 at *
                have H7 := Lib.hid S7
                clear S7 H6 cw
                go_wp2_with fail
                go_roundg (l.length - q)
                case measure => have := HQ.out; omega
                case rel =>
                  have := HQ.out
                  exact ⟨q + 1, some q, rfl, by go_num, by omega, by omega, HP.out.first HX.out HBB.out, H7.out⟩
              | some k =>
                obtain ⟨y, hy⟩ : ∃ y, zs[k]? = some y := by obtain ⟨_, y, hy, _⟩ := HP.out; exact ⟨y, hy⟩
                have hkq : k < q := HP.out.1
                have hly : l[k]? = some (to57 y) := by rw [HC.out.2.1, List.getElem?_map, hy]; rfl
                obtain ⟨ad2, b', o', cs, hA2, had, hbl, hK, hcs⟩ := C_at HC.out.1 hly (by decide)
                have e := HA.out.symm.trans hA2
                injection e with e
                subst e
                have hK' := fl57.K.1 hK
                subst hK'
                have d3 : wr.cell? ⟨b', o' + 3, none⟩ = some (.int .i64 y.f1) := (H6.out.base.cell (p := ⟨b', o' + 3, none⟩) hbl).trans (hcs 3 _ rfl)
                have had2 : ad.add (k * 4) = ⟨b', o', none⟩ := had
                obtain ⟨yf, hyf⟩ : ∃ yf, y.f1 = yf := ⟨_, rfl⟩
                rw [hyf] at d3
                have HY := Lib.hid (And.intro hy hyf)
                have hk0 : (0 : Int) ≤ (k : Int) := by omega
                have hkl : (k : Int) < (l.length : Int) := by omega
                have hkn : ¬ (k : Int) < 0 := by omega
                have HKQ := Lib.hid hkq
                have hAe := HA.out
                clear hy hyf hly hA2 had hbl hK hcs hkq
                unfold kv
                by_cases hlt : xf < yf
                · subst hAe
                  go_upto_region 12 with fail
                  go_quiet (fail)
                  have S7 := H6.out.drewN nq
                  generalize wr.drewN nq = w7 at *
                  have H7 := Lib.hid S7
                  clear S7 H6 cw c3 d3
                  go_wp2_with fail
                  go_roundg (l.length - q)
                  case measure => have := HQ.out; omega
                  case rel =>
                    have := HQ.out
                    exact ⟨q + 1, some q, rfl, by go_num, by omega, by omega, HP.out.less HX.out HBB.out HY.out.1 (by rw [HXF.out, HY.out.2]; omega), H7.out⟩
                · subst hAe
                  go_upto_region 12 with fail
                  go_quiet (fail)
                  have S7 := H6.out.drewN nq
                  generalize wr.drewN nq = w7 at *
                  have H7 := Lib.hid S7
                  clear S7 H6 cw c3 d3
                  go_wp2_with fail
                  go_roundg (l.length - q)
                  case measure => have := HQ.out; omega
                  case rel =>
                    have := HQ.out
                    exact ⟨q + 1, some k, rfl, by go_num, by omega, by omega, HP.out.more HC.out.2.2.2.1 HX.out HY.out.1 (by rw [HXF.out, HY.out.2]; omega), H7.out⟩
          · have hqe : q = l.length := by have := HQ.out; omega
            subst hqe
            have hql' : ¬ ((l.length : Int) < (l.length : Int)) := by omega
            have hzl : zs.length = l.length := by rw [HC.out.2.1, List.length_map]
            have hd : Dist s := HC.out.2.2.2.1.dist.perm HC.out.2.2.1
            have H6 := Lib.hid S6
            clear S6
            cases k with
            | none =>
              have hpe := HP.out
              rw [← hzl] at hpe
              have hnl := hpe.none_end HC.out.2.2.1 hd
              have hne : n = N := by have := HI.out; have := HN.out; rw [HC.out.2.2.1.length_eq, hzl] at hnl; omega
              subst hne
              clear hpe hnl hd hzl
              unfold kv
              go_wp2_with fail
              go_meet
              exact ⟨A8, c8, T, rfl, H6.out.drop 2, HT.out⟩
            | some k =>
              have hpe := HP.out
              rw [← hzl] at hpe
              obtain ⟨y, hky, hny⟩ := hpe.some_end HC.out.2.2.1 hd HC.out.2.2.2.2.1
              have hnN : n < N := by
                have h1 := (List.getElem?_eq_some_iff.1 hny).1
                rw [HC.out.2.2.1.length_eq, hzl] at h1
                have := HI.out; have := HN.out; omega
              have hkl : k < l.length := by
                have h1 := (List.getElem?_eq_some_iff.1 hky).1
                omega
              have hyb := HC.out.2.2.2.2.2 y (List.mem_of_getElem? hky)
              have hly : l[k]? = some (to57 y) := by rw [HC.out.2.1, List.getElem?_map, hky]; rfl
              have hwas := wasL_succ HC.out.2.2.1 hd hky hny
              have hrest := restL_succ HC.out.2.2.1 hd hky hny
              have hrat := restL_at hd hky hny
              have htold := toldL_succ hny
              obtain ⟨ad, b', o', cs, hA, had, hbl, hK, hcs⟩ := C_at HC.out.1 hly (by decide)
              have hK' := fl57.K.1 hK
              subst hK'
              have had2 : ad.add (k * 4) = ⟨b', o', none⟩ := had
              have hwk : (wasL zs s n)[k]? = some false := by
                unfold wasL
                rw [List.getElem?_map, hky, Option.map_some, pick_at hd hny]
                simp
              have hw0 := H6.out.elem flB 2 rfl (i := k) (c := 0) hwk (by decide)
              rw [show k * Kd.bool.sz + 0 = k from Nat.mul_one k] at hw0
              have cw : wr.cell? ⟨b3, k, none⟩ = some (.bool false) := hw0.1
              have fw := hw0.2
              have S7 := H6.out.put flB 2 rfl (i := k) (c := 0) (x := false) (y := true) (v := .bool true) hwk (by decide) rfl
              rw [show k * Kd.bool.sz + 0 = k from Nat.mul_one k] at S7
              have S7' : St (fun _ => False) w (wr.setCell ⟨b3, k, none⟩ (.bool true)) [slc k33 33 (.slice A8 T.length c8) T, slc k57 57 (.slice (some ⟨b2, 0, none⟩) l.length l.length) (restL zs s n), slc Kd.bool 4 (.slice (some ⟨b3, 0, none⟩) l.length l.length) (wasL zs s (n + 1))] := by
                rw [← hwas]; exact S7
              have hT1 : (T.length + 1) * 12 ≤ 140737488355328 := by
                have h1 := HT.out
                rw [h1]
                unfold toldL
                rw [List.length_map, List.length_take]
                have := HN.out; omega
              have HT1 := Lib.hid hT1
              have HK := Lib.hid (And.intro hny (And.intro hnN (And.intro hbl hcs)))
              have HR := Lib.hid (And.intro hrest (And.intro hrat htold))
              have hk0 : (0 : Int) ≤ (k : Int) := by omega
              have hkl' : (k : Int) < (l.length : Int) := by omega
              have hkn : ¬ (k : Int) < 0 := by omega
              have H7 := Lib.hid S7'
              obtain ⟨⟨yn, ym, yi⟩, yt, yc⟩ := y
              have x0 : (wr.setCell ⟨b3, k, none⟩ (.bool true)).cell? ⟨b', o', none⟩ = some (.int .u8 yn) := (H7.out.base.cell (p := ⟨b', o' + 0, none⟩) hbl).trans (hcs 0 _ rfl)
              have x1 : (wr.setCell ⟨b3, k, none⟩ (.bool true)).cell? ⟨b', o' + 1, none⟩ = some (.int .u8 ym) := (H7.out.base.cell (p := ⟨b', o' + 1, none⟩) hbl).trans (hcs 1 _ rfl)
              have x2 : (wr.setCell ⟨b3, k, none⟩ (.bool true)).cell? ⟨b', o' + 2, none⟩ = some (.int .u32 yi) := (H7.out.base.cell (p := ⟨b', o' + 2, none⟩) hbl).trans (hcs 2 _ rfl)
              have wt : wrap64 (yt + 1) = yt + 1 := by
                have := hyb.1
                have := hyb.2
                simp only at *
                unfold wrap64
                omega
              clear S7 S7' hpe hd hzl hnN hky hny hyb hly hwas hrest hrat htold hK hcs had hbl hwk hw0 hT1 hkl
              unfold kv
              subst hA
              go_upto_region 17 with fail
              clear cw fw
              generalize World.setCell wr _ _ = w7 at *
              clear H6
              go_upto_region 18 with (at_builtin; go_loud (refine St.wp1 fl33 rfl _ _ 36 33 (.agg #[.int .u8 0, .int .u8 0, .int .u32 0]) 12 rfl Try.underlying36 info33 rfl (by decide) (by decide) H7.out 0 rfl ⟨yn, ⟨ym, yi⟩⟩ #[.int .u8 yn, .int .u8 ym, .int .u32 yi] rfl rfl rfl HT1.out ?_))
              intro T2 A9 c9 w8 h8
              have H8 := Lib.hid (show St (fun _ => False) w w8 [slc k33 33 (.slice A9 T2.length c9) T2, slc k57 57 (.slice (some ⟨b2, 0, none⟩) l.length l.length) (restL zs s n), slc Kd.bool 4 (.slice (some ⟨b3, 0, none⟩) l.length l.length) (wasL zs s (n + 1))] from h8.out.2)
              have hT2 := Lib.hid (show T2 = toldL s (n + 1) from h8.out.1.trans (by rw [HT.out]; exact HR.out.2.2))
              clear h8 H7 x0 x1 x2
              have e3 : w8.cell? ⟨b2, k * 4 + 3, none⟩ = some (.int .i64 yt) := (H8.out.elem fl57 1 rfl (i := k) (c := 3) HR.out.2.1 (by decide)).1
              have f3 : w8.frozen? ⟨b2, k * 4 + 3, none⟩ = false := (H8.out.elem fl57 1 rfl (i := k) (c := 3) HR.out.2.1 (by decide)).2
              have S9 := H8.out.put fl57 1 rfl (i := k) (c := 3) (x := to57 ⟨⟨yn, ym, yi⟩, yt, yc⟩) (y := ⟨⟨yn, ym, yi⟩, yt + 1⟩) (v := .int .i64 (yt + 1)) HR.out.2.1 (by decide) rfl
              rw [HR.out.1] at S9
              have H9 := Lib.hid S9
              clear S9
              have hnb' : (n : Int) < 1000 := by have := HN.out; have := HK.out.2.1; omega
              go_wp2_with fail
              go_roundg (N - n)
              case measure => have := HI.out; have := HK.out.2.1; omega
              case rel =>
                have := HI.out
                have := HK.out.2.1
                exact ⟨n + 1, A9, c9, T2, rfl, by go_num, by omega, by omega, hT2.out, H9.out⟩
      · have hne : n = N := by have := HI.out; have := HN.out; omega
        subst hne
        go_wp2_with fail
        go_meet
        exact ⟨A8, c8, T, rfl, H5.out.drop 2, HT.out⟩
  case rest =>
    clear H4
    obtain ⟨A8, c8, T, rfl, S5, hT⟩ := hcut
    obtain ⟨R, hR⟩ : ∃ R, restL zs s N = R := ⟨_, rfl⟩
    rw [hR] at S5
    have HRE := Lib.hid hR
    have hRl : R.length = l.length := by rw [← hR, HC.out.2.1]; unfold restL; rw [List.length_map, List.length_map]
    have HT := Lib.hid (And.intro hT hRl)
    have H5 := Lib.hid S5
    clear S5 hT hR
    have hRl' : (l.length : Int) = (l.length : Int) := rfl
    go_upto_region 20 with fail
    obtain ⟨z', hz⟩ : ∃ z', wc.heap.size = z' := ⟨_, rfl⟩
    have H6 := Lib.hid (H5.out.empty fl57 57 z' hz)
    rw [hz]
    clear hz H5
    generalize World.alloc wc _ = w6 at *
    clear hRl hRl'
    go_wp2_with fail
    go_loopg [14, 84] (l.length + 1) (fun m v14 v84 wx => ∃ (q : Nat) (A9 : Option Addr) (c9 : Nat) (O : List S57), v14 = .slice A9 O.length c9 ∧ v84 = .int .i64 q ∧ q ≤ l.length ∧ l.length - q < m ∧ O = (R.take q).filter (fun y => decide (y.f1 < times)) ∧ St (fun _ => False) w wx [slc k33 33 (.slice A8 T.length c8) T, slc k57 57 (.slice (some ⟨b2, 0, none⟩) l.length l.length) R, slc k57 57 (.slice A9 O.length c9) O])
    case atStart => exact ⟨0, _, _, [], rfl, rfl, by omega, by omega, rfl, H6.out⟩
    case round =>
      clear H6
      obtain ⟨q, A9, c9, O, rfl, rfl, hq, hqm, hO, S7⟩ := hrel
      have hOl : O.length ≤ 1000 := by
        rw [hO]
        have h1 := List.length_filter_le (fun y : S57 => decide (y.f1 < times)) (R.take q)
        rw [List.length_take] at h1
        have := HT.out.2
        omega
      have HQ := Lib.hid (And.intro hq (And.intro hqm (And.intro hO hOl)))
      have H7 := Lib.hid S7
      clear S7 hO hOl hq hqm
      by_cases hql : q < l.length
      · have hql' : (q : Int) < (l.length : Int) := by omega
        have hq0 : (0 : Int) ≤ (q : Int) := by omega
        have hqb : (q : Int) < 1000000 := by omega
        obtain ⟨x, hx⟩ : ∃ x, R[q]? = some x := ⟨_, List.getElem?_eq_getElem (by rw [HT.out.2]; exact hql)⟩
        have hfs : (R.take (q + 1)).filter (fun y => decide (y.f1 < times)) = if x.f1 < times then (R.take q).filter (fun y => decide (y.f1 < times)) ++ [x] else (R.take q).filter (fun y => decide (y.f1 < times)) := by
          obtain ⟨hl, he⟩ := List.getElem?_eq_some_iff.1 hx
          rw [← List.take_append_getElem hl, List.filter_append, he]
          by_cases h : x.f1 < times <;> simp [h]
        obtain ⟨⟨xn, xm, xi⟩, xt⟩ := x
        have e0 : wr.cell? ⟨b2, q * 4, none⟩ = some (.int .u8 xn) := (H7.out.elem fl57 1 rfl (i := q) (c := 0) hx (by decide)).1
        have e1 : wr.cell? ⟨b2, q * 4 + 1, none⟩ = some (.int .u8 xm) := (H7.out.elem fl57 1 rfl (i := q) (c := 1) hx (by decide)).1
        have e2 : wr.cell? ⟨b2, q * 4 + 2, none⟩ = some (.int .u32 xi) := (H7.out.elem fl57 1 rfl (i := q) (c := 2) hx (by decide)).1
        have e3 : wr.cell? ⟨b2, q * 4 + 3, none⟩ = some (.int .i64 xt) := (H7.out.elem fl57 1 rfl (i := q) (c := 3) hx (by decide)).1
        dsimp only at hfs
        by_cases hlt : xt < times
        · rw [if_pos hlt] at hfs
          have HF := Lib.hid hfs
          have hb : (O.length + 1) * 24 ≤ 140737488355328 := by have := HQ.out.2.2.2; omega
          have HB := Lib.hid hb
          clear hfs hx hb
          go_wp2_with (at_builtin; go_loud (refine St.wp1 fl57 rfl _ _ 28 57 (.agg #[.int .u8 0, .int .u8 0, .int .u32 0, .int .i64 0]) 24 rfl Try.underlying28 info57 rfl (by decide) (by decide) H7.out 2 rfl ⟨⟨xn, ⟨xm, xi⟩⟩, xt⟩ #[.int .u8 xn, .int .u8 xm, .int .u32 xi, .int .i64 xt] rfl rfl rfl HB.out ?_))
          intro O2 A10 c10 w8 h8
          have H8 := Lib.hid (show St (fun _ => False) w w8 [slc k33 33 (.slice A8 T.length c8) T, slc k57 57 (.slice (some ⟨b2, 0, none⟩) l.length l.length) R, slc k57 57 (.slice A10 O2.length c10) O2] from h8.out.2)
          have HO2 := Lib.hid (h8.out.1)
          clear h8 H7 e0 e1 e2 e3
          go_wp2_with fail
          go_roundg (l.length - q)
          case measure => have := HQ.out; omega
          case rel =>
            exact ⟨q + 1, A10, c10, O2, rfl, by go_num, by omega, by omega, by rw [HO2.out, HF.out, HQ.out.2.2.1], H8.out⟩
        · rw [if_neg hlt] at hfs
          have HF := Lib.hid hfs
          clear hfs hx
          go_wp2_with fail
          go_roundg (l.length - q)
          case measure => have := HQ.out; omega
          case rel =>
            exact ⟨q + 1, A9, c9, O, rfl, by go_num, by omega, by omega, by rw [HF.out, HQ.out.2.2.1], H7.out⟩
      · have hqe : q = l.length := by have := HQ.out; omega
        subst hqe
        have hql' : ¬ ((l.length : Int) < (l.length : Int)) := by omega
        go_wp2_with fail
        go_ret2
        have hO := HQ.out.2.2.1
        rw [← HT.out.2, List.take_length] at hO
        refine ⟨_, _, rfl, ?_⟩
        rw [HRE.out, ← hO, ← HT.out.1]
        exact H7.out.sub (by simp)
end Go.Proofs.Ytkfofcgonkkdaaa
