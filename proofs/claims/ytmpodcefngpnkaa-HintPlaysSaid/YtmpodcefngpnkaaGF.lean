import Derived.Test.YtmpodcefngpnkaaGE
import Derived.Test.YtmpodcefngpnkaaLib
namespace Go.Proofs.Ytmpodcefngpnkaa
open Go.RowKit Go.Tat Go.Proofs.YtmpodcefngpnkaaW.PrintWords PHintPlays
/-! ### The owners -/
def maskV (a : List Int) : Array Value := Array.ofFn (n := 256) fun i => .bool (decide ((i.val : Int) ∈ a))
theorem maskV_at {a : List Int} {n : Nat} (h : n < 256) : (maskV a)[n]? = some (.bool (decide ((n : Int) ∈ a))) := by
  unfold maskV
  rw [Array.getElem?_ofFn, dif_pos h]
theorem maskV_set {a : List Int} {n : Nat} (h : n < 256) : (maskV a).setIfInBounds n (.bool true) = maskV (a ++ [(n : Int)]) := by
  apply Array.ext_getElem?
  intro i
  rw [Array.getElem?_setIfInBounds]
  unfold maskV
  simp only [Array.size_ofFn, Array.getElem?_ofFn]
  by_cases hi : n = i
  · subst hi
    simp [h]
  · rw [if_neg hi]
    by_cases h2 : i < 256
    · rw [dif_pos h2, dif_pos h2]
      have : ¬ ((i : Int) = (n : Int)) := by omega
      simp [this]
    · rw [dif_neg h2, dif_neg h2]
theorem info104 : (Try.prog.info? 104).map (fun i => (i.zero, i.size, i.bytes)) = some (some (.agg #[.int .u8 0, .int .u64 0]), 2, 16) := by kernel_rfl
theorem info5 : (Try.prog.info? 5).map (fun i => (i.zero, i.size, i.bytes)) = some (some (.int .u8 0), 1, 1) := by kernel_rfl
theorem mask0 : Try.zeroCells101 = maskV [] := by kernel_rfl
def ownPost (F : Nat → Prop) (w0 : World) (A : List Asr) (r : List Int) (e : Ending) (w' : World) : Prop := ∃ v, e = .returned v ∧ St F w0 w' (A ++ [slc (Kd.int .u8) 5 v r])
set_option maxRecDepth 100000 in
set_option maxHeartbeats 4000000 in
theorem owners_c (key : ByteArray) (hs : key.size ≤ 1000000) (l : List Int) (Al : Option Addr) (c : Nat) (w : World) (hC : (Kd.int .u8).C w Al l.length l) (h0 : ∀ x ∈ l, 0 ≤ x ∧ x < 256) (hl : l.length ≤ 1000000) :
    Calls Try.prog 32 #[.string key, .slice Al l.length c] w (ownPost (fun _ => False) w [] (own key l)) := by
  have HC := Lib.hid (And.intro hC h0)
  have HW := Lib.hid (weight_c key)
  have hs' := Lib.hid hs
  clear hC h0 hs
  go_enter Try.func32, Try.ntmps32
  go_upto_region 3 with fail
  rw [mask0]
  have S1 := (St.nil (fun _ => False) w).new' (maskV []) 101 w.heap.size rfl
  obtain ⟨z, hz⟩ : ∃ z, w.heap.size = z := ⟨_, rfl⟩
  rw [hz] at S1 ⊢
  have HZ := Lib.hid hz
  clear hz
  have S2 := S1.nils k104 104
  have H2 := Lib.hid S2
  clear S1 S2
  generalize w.alloc _ = w1 at *
  go_wp2_with fail
  go_loopg [5, 14] (l.length + 1) (fun m v5 v14 wx => ∃ j : Nat, v14 = .int .i64 j ∧ j ≤ l.length ∧ l.length - j < m ∧ (dd (l.take j)).length ≤ j ∧ St (fun _ => False) w wx [blk z (maskV (dd (l.take j))) 101, slc k104 104 v5 ((dd (l.take j)).map (ofN key))])
  case atStart => exact ⟨0, rfl, by omega, by omega, Nat.le_refl _, H2.out⟩
  case round =>
    clear H2
    obtain ⟨j, rfl, hj, hjm, hdl, S4⟩ := hrel
    by_cases hjl : j < l.length
    · have hjl' : (j : Int) < (l.length : Int) := by omega
      have hj0 : (0 : Int) ≤ (j : Int) := by omega
      obtain ⟨x, hx⟩ : ∃ x, l[j]? = some x := ⟨_, List.getElem?_eq_getElem hjl⟩
      have hx0 := HC.out.2 x (List.mem_of_getElem? hx)
      obtain ⟨ad, b, o, cs, rfl, had, hb, hK, hcs⟩ := C_at HC.out.1 hx (by decide)
      obtain rfl : cs = [.int .u8 x] := hK
      have hBw := S4.base
      have c0 : wr.cell? ⟨b, o, none⟩ = some (.int .u8 x) := (hBw.cell (p := ⟨b, o, none⟩) hb).trans (hcs 0 _ rfl)
      have had' : ad.add j = ⟨b, o, none⟩ := by
        have e : j * (Kd.int .u8).sz = j := Nat.mul_one j
        rw [e] at had
        exact had
      have hsc := dd_succ hx
      generalize hD : dd (l.take j) = D at *
      have HI := Lib.hid (And.intro hjm (And.intro hj hdl))
      have HS := Lib.hid hsc
      have H4 := Lib.hid S4
      obtain ⟨n, rfl⟩ : ∃ n : Nat, x = n := ⟨x.toNat, by omega⟩
      have hn : n < 256 := by omega
      have m0 : wr.cell? ⟨z, n, none⟩ = some (.bool (decide ((n : Int) ∈ D))) := (S4.cell 0 rfl n).trans (maskV_at hn)
      have mf : wr.frozen? ⟨z, n, none⟩ = false := S4.frozen 0 rfl n
      clear S4 hjm hj hdl hsc hD hx hcs had hBw
      have hni : (n : Int) < 256 := by omega
      have hn0 : (0 : Int) ≤ (n : Int) := by omega
      by_cases hn64 : (n : Int) < 64
      · by_cases hmem : (n : Int) ∈ D
        · have e : decide ((n : Int) ∈ D) = true := decide_eq_true hmem
          rw [e] at m0
          have hds : ddS D n = D := if_neg fun h => h.2 hmem
          have HD := Lib.hid hds
          clear e hds
          go_wp2_with fail
          go_roundg (l.length - j)
          case measure => have := HI.out; omega
          case rel =>
            have := HI.out
            exact ⟨j + 1, by go_num, by omega, by omega, by rw [HS.out, HD.out]; omega, by rw [HS.out, HD.out]; exact H4.out⟩
        · have e : decide ((n : Int) ∈ D) = false := decide_eq_false hmem
          rw [e] at m0
          have hds : ddS D n = D ++ [(n : Int)] := if_pos ⟨hn64, hmem⟩
          have HD := Lib.hid hds
          clear e hds
          have hll : (D.map (ofN key)).length ≤ 1000000 := by have := HI.out; rw [List.length_map]; omega
          have H4' := H4.out
          obtain ⟨E, hE⟩ : ∃ E, D.map (ofN key) = E := ⟨_, rfl⟩
          rw [hE] at H4' hll
          obtain ⟨A4, c4, rfl⟩ := Kd.R_slice (H4'.get 1 rfl).1
          have HE := Lib.hid hE
          have HLL := Lib.hid hll
          clear H4 hE hll
          have H4 := Lib.hid H4'
          clear H4'
          go_upto_region 8 with fail
          have S5 := H4.out.set 0 rfl n (.bool true)
          rw [maskV_set hn] at S5
          have H5 := Lib.hid S5
          clear S5 m0 mf c0 had' H4
          generalize World.setCell _ _ _ = w5 at *
          go_wp2_with fail
          refine (HW.out n (by have := hs'.out; omega) w5).mono ?_
          rintro e w6 ⟨rfl, dr⟩
          have S6 := H5.out.below dr.below
          have H6 := Lib.hid S6
          clear S6 H5 dr
          go_wp2_with (at_builtin; go_loud (refine wpList_app1 k104 rfl _ _ 100 104 (.agg #[.int .u8 0, .int .u64 0]) 16 rfl Try.underlying100 info104 rfl (by decide) (by decide) (.slice A4 E.length c4) E (ofN key n) [.int .u8 n, .int .u64 (wt key n)] (fun k => (Value.slice A4 E.length c4).ownBlock = some k) rfl rfl (k104_mkM _ _ _ (ofN key n)) (slc_R (H6.out.get 1 rfl)) (by have := HLL.out; omega) ?_))
          intro A7 c7 w7 R7 m7 ho7
          have S7 := H6.out.app 1 rfl rfl R7 m7 ho7
          have H7 := Lib.hid S7
          clear S7 R7 m7 ho7 H6
          go_wp2_with fail
          go_roundg (l.length - j)
          case measure => have := HI.out; omega
          case rel =>
            have := HI.out
            have em : E ++ [ofN key n] = (D ++ [(n : Int)]).map (ofN key) := by rw [List.map_append, HE.out]; rfl
            refine ⟨j + 1, by go_num, by omega, by omega, by rw [HS.out, HD.out, List.length_append]; simp only [List.length_cons, List.length_nil]; omega, ?_⟩
            rw [HS.out, HD.out, ← em]
            exact H7.out
      · have hds : ddS D n = D := if_neg fun h => hn64 h.1
        have HD := Lib.hid hds
        clear hds m0 mf
        go_wp2_with fail
        go_roundg (l.length - j)
        case measure => have := HI.out; omega
        case rel =>
          have := HI.out
          exact ⟨j + 1, by go_num, by omega, by omega, by rw [HS.out, HD.out]; omega, by rw [HS.out, HD.out]; exact H4.out⟩
    · have hjl' : ¬ (j : Int) < (l.length : Int) := by omega
      have ej : j = l.length := by omega
      subst ej
      rw [List.take_length] at S4 hdl
      have S5 : St (fun _ => False) w wr [slc k104 104 u5 (cand key l)] := S4.drop 0
      have hcl : (cand key l).length ≤ 1000000 := by show ((dd l).map (ofN key)).length ≤ _; rw [List.length_map]; omega
      have hcd := cand_dist key l
      have hso : (isort (cand key l)).map (fun x => x.f0) = srt key l := rfl
      generalize cand key l = E at *
      have HSC := Lib.hid (sort_c _ _ wr (S5.get 0 rfl) (by omega))
      obtain ⟨Av, cv, rfl⟩ := Kd.R_slice (S5.get 0 rfl).1
      have H5 := Lib.hid S5
      have HCL := Lib.hid (And.intro hcl (And.intro hcd hso))
      clear S4 S5 hj hjm hdl hcl hcd hso
      go_wp2_with fail
      refine HSC.out.mono ?_
      rintro e w6 ⟨rfl, ys, hpm, hso, hR6, m6⟩
      have S6 := H5.out.upd 0 rfl m6 (a' := slc k104 104 (.slice Av E.length cv) ys) hR6 (fun k hk => .inl hk)
      have ey : ys = isort E := sort_is HCL.out.2.1 hpm hso
      have hly : E.length = ys.length := hpm.length_eq.symm
      rw [hly] at S6 ⊢
      have hyl : ys.length ≤ 1000000 := by have := HCL.out.1; omega
      have hsr : ys.map (fun x => x.f0) = srt key l := by rw [ey]; exact HCL.out.2.2
      have HS := Lib.hid (And.intro hsr hyl)
      have H6 := Lib.hid S6
      clear S6 HSC H5 hpm hso hR6 m6 ey hly hsr HCL
      obtain ⟨m, hm⟩ : ∃ m : Nat, min ys.length 2 = m := ⟨_, rfl⟩
      have hm2 : min (ys.length : Int) 2 = (m : Int) := by omega
      have hmN : m ≤ ys.length := by omega
      have hm22 : m ≤ 2 := by omega
      have hm0 : (0 : Int) ≤ (m : Int) := by omega
      have hcv : ys.length ≤ cv := (Kd.R_reads' (H6.out.get 0 rfl).1).2.1
      have hm1 : (m : Int) ≤ (cv : Int) := by omega
      generalize hN : ys.length = N at *
      have HM := Lib.hid (And.intro hN (And.intro hm (And.intro hmN hm22)))
      clear hN hm hcv hyl
      go_wp2_with fail
      clear hm2
      have S7 : St (fun _ => False) w w6 [slc k104 104 (.slice Av N cv) ys, slc (Kd.int .u8) 5 (.slice none 0 0) []] := H6.out.nils (Kd.int .u8) 5
      have H7 := Lib.hid S7
      clear S7 H6
      go_loopg [9, 45] (m + 1) (fun q v9 v45 wx => ∃ j : Nat, v45 = .int .i64 j ∧ j ≤ m ∧ m - j < q ∧ St (fun _ => False) w wx [slc k104 104 (.slice Av N cv) ys, slc (Kd.int .u8) 5 v9 ((srt key l).take j)])
      case atStart => exact ⟨0, rfl, by omega, by omega, H7.out⟩
      case round =>
        clear H7
        obtain ⟨j, rfl, hj, hq, S8⟩ := hrel
        by_cases hjm : j < m
        · obtain ⟨hN, hm, hmN', hm22'⟩ := HM.out
          obtain ⟨u, hu⟩ : ∃ u, ys[j]? = some u := ⟨_, List.getElem?_eq_getElem (by omega)⟩
          obtain ⟨gb, cb, hv, hgb, hcb⟩ := slc_form (S8.get 0 rfl) (by omega)
          injection hv with hv1 hvl hv2
          subst hv1; subst hv2
          have E0 : ∀ c, c < 2 → wr.cell? ⟨gb, j * 2 + c, none⟩ = (e104 u)[c]? ∧ wr.frozen? ⟨gb, j * 2 + c, none⟩ = false := fun c hc => (S8.elem fl104 0 rfl (i := j) (c := c) hu hc)
          have htk : (srt key l).take j ++ [u.f0] = (srt key l).take (j + 1) := by
            rw [List.take_add_one, ← HS.out.1, List.getElem?_map, hu]
            rfl
          have htl : ((srt key l).take j).length ≤ 2 := by rw [List.length_take]; omega
          generalize (srt key l).take j = T at *
          obtain ⟨A8, c8, rfl⟩ := Kd.R_slice (S8.get 1 rfl).1
          obtain ⟨un, uw⟩ := u
          have u0 : wr.cell? ⟨gb, j * 2, none⟩ = some (.int .u8 un) := (E0 0 (by decide)).1
          have u1 : wr.cell? ⟨gb, j * 2 + 1, none⟩ = some (.int .u64 uw) := (E0 1 (by decide)).1
          have H8 := Lib.hid S8
          have HI := Lib.hid (And.intro hj (And.intro hq (And.intro hjm htk)))
          have HL := Lib.hid htl
          have hjm' : (j : Int) < (m : Int) := by omega
          have hj0 : (0 : Int) ≤ (j : Int) := by omega
          clear S8 E0 hu hj hq hjm hgb hcb htk htl hN hm hmN' hm22' hvl
          go_upto_region 15 with fail
          have S9 := H8.out.new' #[.int .u8 un, .int .u64 uw] 104 wr.heap.size rfl
          generalize wr.heap.size = y at *
          generalize World.alloc _ _ = w8 at *
          have y0 : w8.cell? ⟨y, 0, none⟩ = some (.int .u8 un) := S9.cell 2 rfl 0
          have H9 := Lib.hid S9
          clear S9 u0 u1 H8
          go_wp2_with (at_builtin; go_loud (refine wpList_app1 (Kd.int .u8) rfl _ _ 23 5 (.int .u8 0) 1 rfl Try.underlying23 info5 rfl (by decide) (by decide) (.slice A8 T.length c8) T un [.int .u8 un] (fun k => (Value.slice A8 T.length c8).ownBlock = some k) rfl rfl rfl (slc_R (H9.out.get 1 rfl)) (by have := HL.out; omega) ?_))
          intro A10 c10 w10 R10 m10 ho10
          have S10 := (H9.out.app 1 rfl rfl R10 m10 ho10).drop 2
          have H10 := Lib.hid S10
          clear S10 R10 m10 ho10 H9 y0
          go_wp2_with fail
          go_roundg (m - j)
          case measure => have := HI.out; omega
          case rel =>
            obtain ⟨hj, hq, hjm, htk⟩ := HI.out
            exact ⟨j + 1, by go_num, by omega, by omega, by rw [← htk]; exact H10.out⟩
        · have hjm' : ¬ (j : Int) < (m : Int) := by omega
          have ej : j = m := by omega
          subst ej
          have HS8 := Lib.hid S8
          clear S8
          go_wp2_with fail
          go_ret
          have e : (srt key l).take j = own key l := by
            unfold own
            have hsl : (srt key l).length = N := by rw [← HS.out.1, List.length_map, HM.out.1]
            rcases Nat.lt_or_ge 2 N with h | h
            · have : j = 2 := by have := HM.out.2.1; omega
              rw [this]
            · rw [List.take_of_length_le (by have := HM.out.2.1; omega), List.take_of_length_le (by omega)]
          have h := HS8.out.drop 0
          rw [e] at h
          exact ⟨_, rfl, h⟩
theorem owners_st {F : Nat → Prop} {w0 w : World} {A : List Asr} (h : St F w0 w A) (key : ByteArray) (hs : key.size ≤ 1000000) (l : List Int) (Al : Option Addr) (c : Nat) (hC : (Kd.int .u8).C w Al l.length l) (h0 : ∀ x ∈ l, 0 ≤ x ∧ x < 256) (hl : l.length ≤ 1000000) :
    Calls Try.prog 32 #[.string key, .slice Al l.length c] w (ownPost F w0 A (own key l)) := by
  refine (owners_c key hs l Al c w hC h0 hl).mono ?_
  rintro e w' ⟨v, rfl, S⟩
  exact ⟨v, rfl, h.adds S⟩
end Go.Proofs.Ytmpodcefngpnkaa
